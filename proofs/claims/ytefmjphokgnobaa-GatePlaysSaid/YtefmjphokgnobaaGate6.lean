/- Contracts of functions of the program, proved in a small separation logic. Conditions: those that each theorem states. -/
import Derived.Test.YtefmjphokgnobaaGate3
namespace Go.Proofs.Ytefmjphokgnobaa
open Go Go.Sl
set_option maxHeartbeats 4000000
set_option maxRecDepth 100000
set_option linter.unusedVariables false
-- FN confidant/confidantref21.New
theorem ref21_New (r : Bool) (v gv : Value) (rows : List Value) (gates : List S_api_Gate) (hm : gates.length ≤ 1048576) (hr : rows.length ≤ 1048576) :
    Sp Try.prog 12 [v, gv] [rsl eVal v rows, slB r e_api_Gate gv gates] (fun _ : Nat × Value × Value => True) (fun x => .pointer (some ⟨x.1, 0, none⟩))
      (fun x => [slB r e_api_Gate gv gates, cel x.1 86 [v, gv, .slice none 0 0, .slice none 0 0, x.2.1, x.2.2], sl eVal x.2.1 (List.replicate gates.length (.slice none 0 0)), rws false (eInt .i32) (List.replicate gates.length (.slice none 0 0)) (List.replicate gates.length []), sl (eInt .i64) x.2.2 (List.replicate rows.length 0)]) := by
  refine Sp.intro (n := 15) Try.func12 rfl rfl fun w0 R => ?_
  dsimp only [List.cons_append, List.nil_append, envOf]
  refine go ?_
  refine Cd.cut0 (α := Nat × Value × Value) (fun x => [(4, .pointer (some ⟨x.1, 0, none⟩))]) (fun x => [slB r e_api_Gate gv gates, cel x.1 86 [v, gv, .slice none 0 0, .slice none 0 0, x.2.1, x.2.2], sl eVal x.2.1 (List.replicate gates.length (.slice none 0 0)), rws false (eInt .i32) (List.replicate gates.length (.slice none 0 0)) (List.replicate gates.length []), sl (eInt .i64) x.2.2 (List.replicate rows.length 0)] ++ R) (fun kk => ?_) ?_
  · refine Cd.drawL (l := [_, _, _, _, _, _, _, _, _, _]) (z := _) [[], [], [], [2], [2, 3], [], [5], [5, 6], [0, 1, 2, 3, 4, 5, 6, 7], [0, 1, 2, 3, 4, 5, 6, 7, 8]] [4, 7, 8, 9] [4, 7] (td := [(0, .fresh), (1, .fresh), (2, .fresh), (3, .fresh), (4, .flt), (5, .fresh), (6, .fresh), (7, .flt)]) rfl mixed (by kernel_rfl) (by kernel_rfl) (by kernel_rfl) (by decide) (by decide) rfl (by kernel_rfl) ?_
    refine god2 ?_
    refine Gr2.flt rfl rfl rfl rfl rfl (AllocOk.mkS (nb := 24) (x := Value.slice none 0 0) rfl ?_) ?_
    · omega
    refine god2 ?_
    refine Gr2.flt rfl rfl rfl rfl rfl (AllocOk.mkS (nb := 8) (x := (0 : Int)) rfl ?_) ?_
    · omega
    refine god2 ?_
    refine Sg2.flt (td := [(0, .old), (1, .old), (5, .old), (6, .old)]) rfl rfl rfl rfl (by kernel_rfl) fun _ => ?_
    refine god2 ?_
    refine Sg2.flt (td := [(0, .old), (1, .old)]) rfl rfl rfl rfl (by kernel_rfl) fun _ => ?_
    refine god2 ?_
    refine Sg2.one (td := []) rfl (by kernel_rfl) fun F8_ => ?_
    dsimp only [List.cons_append, List.nil_append]
    (with_reducible first|refine SpOp.eff rfl rfl rfl rfl rfl (Eff.x (Qx.build rfl) ?_)|refine SpOp.eff rfl rfl rfl rfl rfl (Eff.alloc fun _ => ?_)|refine SpOp.eff rfl rfl rfl rfl rfl (Eff.box fun _ => ?_)|refine SpOp.eff rfl rfl rfl rfl rfl (Eff.bslice rfl rfl fun _ => ?_)|(refine SpOp.eff rfl rfl rfl rfl rfl (Eff.append1 rfl ?_ fun _ => ?_);(first|exact True.intro|omega|(unfold in64;omega)|(simp only [List.length_append,List.length_cons,List.length_nil,List.length_set];omega)))|refine SpOp.eff0 rfl rfl rfl rfl (Eff.store rfl rfl ?_)|(refine SpOp.eff0 rfl rfl rfl rfl (Eff.storeE rfl ?_ ?_);(first|exact True.intro|omega|(unfold in64;omega)|(simp only [List.length_append,List.length_cons,List.length_nil,List.length_set];omega))))
    refine Sn.ok ?_
    refine god2 ?_
    refine Sg2.one (td := []) rfl (by kernel_rfl) fun F9_ => ?_
    dsimp only [List.cons_append, List.nil_append]
    (with_reducible first|refine SpOp.eff rfl rfl rfl rfl rfl (Eff.x (Qx.build rfl) ?_)|refine SpOp.eff rfl rfl rfl rfl rfl (Eff.alloc fun _ => ?_)|refine SpOp.eff rfl rfl rfl rfl rfl (Eff.box fun _ => ?_)|refine SpOp.eff rfl rfl rfl rfl rfl (Eff.bslice rfl rfl fun _ => ?_)|(refine SpOp.eff rfl rfl rfl rfl rfl (Eff.append1 rfl ?_ fun _ => ?_);(first|exact True.intro|omega|(unfold in64;omega)|(simp only [List.length_append,List.length_cons,List.length_nil,List.length_set];omega)))|refine SpOp.eff0 rfl rfl rfl rfl (Eff.store rfl rfl ?_)|(refine SpOp.eff0 rfl rfl rfl rfl (Eff.storeE rfl ?_ ?_);(first|exact True.intro|omega|(unfold in64;omega)|(simp only [List.length_append,List.length_cons,List.length_nil,List.length_set];omega))))
    refine Sn.ok ?_
    refine god2 ?_
    rw [show ((gates.length : Int)).toNat = gates.length from by simp, show ((rows.length : Int)).toNat = rows.length from by simp]
    exact Dn.weak (by repeat(first|exact Env.le_nil _|(refine Env.le_cons rfl ?_ ?_;first|rfl|(simp;done)|exact congrArg _ (by omega)|rotate_left))) (by exact ent_) (kk (_, _, _))
  rintro ⟨p, ov, sv⟩
  dsimp only [List.cons_append, List.nil_append]
  refine go ?_
  refine Dn.ret1 rfl rfl fun w hs => ⟨(p, ov, sv), rfl, trivial, hs⟩
end Go.Proofs.Ytefmjphokgnobaa

