/- Contracts of functions of the program, proved in a small separation logic. Conditions: those that each theorem states. -/
import Derived.Test.YtefmjphokgnobaaLaw21
namespace Go.Proofs.Ytefmjphokgnobaa
open Go Go.Sl
set_option maxHeartbeats 4000000
set_option maxRecDepth 100000
set_option linter.unusedVariables false
theorem gateOk_in (f t need : Int) (n : Int) (hf : 0 ≤ f) (ht : 0 ≤ t) (hn : need ≤ 65535) : gateOk ⟨f, t, need, 3⟩ n = (decide (f < n) && decide (t < n)) := by
  unfold gateOk inN
  have e1 : decide (0 ≤ f ∧ f < n) = decide (f < n) := decide_eq_decide.2 ⟨fun h => h.2, fun h => ⟨hf, h⟩⟩
  have e2 : decide (0 ≤ t ∧ t < n) = decide (t < n) := decide_eq_decide.2 ⟨fun h => h.2, fun h => ⟨ht, h⟩⟩
  have e3 : decide (need < 65536) = true := decide_eq_true (by omega)
  simp only [e1, e2, e3]
  simp
-- FN confidant/confidantlaw21.GateRights
theorem law_GateRights (g : S_api_Gate) (labels k : Int) (hg : u32 g.f_Need) (hk : 0 ≤ k ∧ k ≤ 255) :
    Sp Try.prog 4 [.agg #[.int .i64 g.f_From, .int .i64 g.f_To, .int .u32 g.f_Need, .int .i64 g.f_Quota], .int .i64 labels, .int .u8 k] [] (fun _ : Unit => True) (fun _ => .bool true) (fun _ => []) := by
  refine Sp.intro (n := 66) Try.func4 rfl rfl fun w0 R => ?_
  dsimp only [List.cons_append, List.nil_append, envOf]
  repeat(first|(with_reducible refine Ol.g ?_;first|(refine Ol.q rfl rfl rfl ?_ ?_;(first|exact True.intro|omega|(unfold in64;omega)|(simp only [List.length_append,List.length_cons,List.length_nil,List.length_set];omega)))|with_reducible refine Ol.nil ?_|refine Ol.skip rfl rfl ?_|refine Ol.eff rfl rfl rfl (Eff.x (Qx.build rfl) ?_)|refine Ol.skip0 rfl ?_|(refine Ol.ga ?_;dsimp only [List.append])|refine Ol.eff rfl rfl rfl (Eff.alloc fun _ => ?_)|refine Ol.eff rfl rfl rfl (Eff.box fun _ => ?_)|refine Ol.eff0 rfl rfl (Eff.store rfl rfl ?_)|refine Ol.eff rfl rfl rfl (Eff.bslice rfl rfl fun _ => ?_)|(refine Ol.eff0 rfl rfl (Eff.storeE rfl ?_ ?_);(first|exact True.intro|omega|(unfold in64;omega)|(simp only [List.length_append,List.length_cons,List.length_nil,List.length_set];omega)))|(refine Ol.eff rfl rfl rfl (Eff.append1 rfl ?_ fun _ => ?_);(first|exact True.intro|omega|(unfold in64;omega)|(simp only [List.length_append,List.length_cons,List.length_nil,List.length_set];omega))))|(with_reducible refine Cd.g ?_;first|with_reducible refine Cd.seq ?_|with_reducible refine Cd.region ?_|with_reducible refine Cd.skip ?_|with_reducible refine Cd.ret ?_|with_reducible refine Cd.block ?_|with_reducible refine Cd.exit ?_|(with_reducible refine Cd.condg ?_;first|refine Cd.cond_t rfl ?_|refine Cd.cond_f rfl ?_))|(with_reducible refine Dn.g ?_;first|with_reducible refine Dn.then ?_|with_reducible refine Dn.ret_then ?_|with_reducible refine Dn.ret_block ?_|with_reducible refine Dn.block ?_|with_reducible refine Dn.exit_then ?_|with_reducible refine Dn.exit_at ?_|with_reducible refine Dn.exit_by rfl ?_))
  refine Ol.eff rfl rfl rfl (Eff.call (R := ?_) law21_known rfl ?_ ?_)
  rotate_left
  · exact tkl_
  rintro _ -
  dsimp only [List.cons_append, List.nil_append]
  repeat(first|(with_reducible refine Ol.g ?_;first|(refine Ol.q rfl rfl rfl ?_ ?_;(first|exact True.intro|omega|(unfold in64;omega)|(simp only [List.length_append,List.length_cons,List.length_nil,List.length_set];omega)))|with_reducible refine Ol.nil ?_|refine Ol.skip rfl rfl ?_|refine Ol.eff rfl rfl rfl (Eff.x (Qx.build rfl) ?_)|refine Ol.skip0 rfl ?_|(refine Ol.ga ?_;dsimp only [List.append])|refine Ol.eff rfl rfl rfl (Eff.alloc fun _ => ?_)|refine Ol.eff rfl rfl rfl (Eff.box fun _ => ?_)|refine Ol.eff0 rfl rfl (Eff.store rfl rfl ?_)|refine Ol.eff rfl rfl rfl (Eff.bslice rfl rfl fun _ => ?_)|(refine Ol.eff0 rfl rfl (Eff.storeE rfl ?_ ?_);(first|exact True.intro|omega|(unfold in64;omega)|(simp only [List.length_append,List.length_cons,List.length_nil,List.length_set];omega)))|(refine Ol.eff rfl rfl rfl (Eff.append1 rfl ?_ fun _ => ?_);(first|exact True.intro|omega|(unfold in64;omega)|(simp only [List.length_append,List.length_cons,List.length_nil,List.length_set];omega))))|(with_reducible refine Cd.g ?_;first|with_reducible refine Cd.seq ?_|with_reducible refine Cd.region ?_|with_reducible refine Cd.skip ?_|with_reducible refine Cd.ret ?_|with_reducible refine Cd.block ?_|with_reducible refine Cd.exit ?_|(with_reducible refine Cd.condg ?_;first|refine Cd.cond_t rfl ?_|refine Cd.cond_f rfl ?_))|(with_reducible refine Dn.g ?_;first|with_reducible refine Dn.then ?_|with_reducible refine Dn.ret_then ?_|with_reducible refine Dn.ret_block ?_|with_reducible refine Dn.block ?_|with_reducible refine Dn.exit_then ?_|with_reducible refine Dn.exit_at ?_|with_reducible refine Dn.exit_by rfl ?_))
  refine Cd.draw2 [[], [0], [0, 1], [], [3], [3, 4], [], [6], [6, 7], [0, 1, 2], [0, 1, 2, 9], [0, 1, 2, 3, 4, 5, 9, 10], [0, 1, 2, 3, 4, 5, 9, 10, 11], [0, 1, 2, 3, 4, 5, 6, 7, 8, 9, 10, 11, 12], [0, 1, 2, 3, 4, 5, 6, 7, 8, 9, 10, 11, 12, 13]] [10, 12, 14] [] (td := [(0, .fresh), (1, .fresh), (2, .fresh), (3, .fresh), (4, .fresh), (5, .fresh), (6, .fresh), (7, .fresh), (8, .fresh), (9, .fresh)]) mixed (by kernel_rfl) (by kernel_rfl) (by decide) (by decide) rfl (by kernel_rfl) ?_
  refine god2 ?_
  refine Sg2.one (td := [(3, .old), (4, .old), (5, .old), (6, .old), (7, .old), (8, .old), (11, .fresh)]) rfl (by kernel_rfl) fun F10_ => ?_
  dsimp only [List.cons_append, List.nil_append]
  (with_reducible first|refine SpOp.eff rfl rfl rfl rfl rfl (Eff.x (Qx.build rfl) ?_)|refine SpOp.eff rfl rfl rfl rfl rfl (Eff.alloc fun _ => ?_)|refine SpOp.eff rfl rfl rfl rfl rfl (Eff.box fun _ => ?_)|refine SpOp.eff rfl rfl rfl rfl rfl (Eff.bslice rfl rfl fun _ => ?_)|(refine SpOp.eff rfl rfl rfl rfl rfl (Eff.append1 rfl ?_ fun _ => ?_);(first|exact True.intro|omega|(unfold in64;omega)|(simp only [List.length_append,List.length_cons,List.length_nil,List.length_set];omega)))|refine SpOp.eff0 rfl rfl rfl rfl (Eff.store rfl rfl ?_)|(refine SpOp.eff0 rfl rfl rfl rfl (Eff.storeE rfl ?_ ?_);(first|exact True.intro|omega|(unfold in64;omega)|(simp only [List.length_append,List.length_cons,List.length_nil,List.length_set];omega))))
  refine Sn.ok ?_
  refine god2 ?_
  refine Sg2.one (td := [(6, .old), (7, .old), (8, .old), (13, .fresh)]) rfl (by kernel_rfl) fun F12_ => ?_
  dsimp only [List.cons_append, List.nil_append]
  (with_reducible first|refine SpOp.eff rfl rfl rfl rfl rfl (Eff.x (Qx.build rfl) ?_)|refine SpOp.eff rfl rfl rfl rfl rfl (Eff.alloc fun _ => ?_)|refine SpOp.eff rfl rfl rfl rfl rfl (Eff.box fun _ => ?_)|refine SpOp.eff rfl rfl rfl rfl rfl (Eff.bslice rfl rfl fun _ => ?_)|(refine SpOp.eff rfl rfl rfl rfl rfl (Eff.append1 rfl ?_ fun _ => ?_);(first|exact True.intro|omega|(unfold in64;omega)|(simp only [List.length_append,List.length_cons,List.length_nil,List.length_set];omega)))|refine SpOp.eff0 rfl rfl rfl rfl (Eff.store rfl rfl ?_)|(refine SpOp.eff0 rfl rfl rfl rfl (Eff.storeE rfl ?_ ?_);(first|exact True.intro|omega|(unfold in64;omega)|(simp only [List.length_append,List.length_cons,List.length_nil,List.length_set];omega))))
  refine Sn.ok ?_
  refine god2 ?_
  refine Sg2.one (td := []) rfl (by kernel_rfl) fun F14_ => ?_
  dsimp only [List.cons_append, List.nil_append]
  (with_reducible first|refine SpOp.eff rfl rfl rfl rfl rfl (Eff.x (Qx.build rfl) ?_)|refine SpOp.eff rfl rfl rfl rfl rfl (Eff.alloc fun _ => ?_)|refine SpOp.eff rfl rfl rfl rfl rfl (Eff.box fun _ => ?_)|refine SpOp.eff rfl rfl rfl rfl rfl (Eff.bslice rfl rfl fun _ => ?_)|(refine SpOp.eff rfl rfl rfl rfl rfl (Eff.append1 rfl ?_ fun _ => ?_);(first|exact True.intro|omega|(unfold in64;omega)|(simp only [List.length_append,List.length_cons,List.length_nil,List.length_set];omega)))|refine SpOp.eff0 rfl rfl rfl rfl (Eff.store rfl rfl ?_)|(refine SpOp.eff0 rfl rfl rfl rfl (Eff.storeE rfl ?_ ?_);(first|exact True.intro|omega|(unfold in64;omega)|(simp only [List.length_append,List.length_cons,List.length_nil,List.length_set];omega))))
  refine Sn.ok ?_
  refine god2 ?_
  refine go ?_
  rename_i b c
  have a1 := andI_i64 (a := g.f_From) (b := 7) (by omega)
  have a2 := andI_i64 (a := g.f_To) (b := 7) (by omega)
  have a3 := andI_u32 (a := g.f_Need) (b := 65535) (by omega)
  refine Cd.drawL (l := [_, _, _, _, _, _, _, _, _, _, _, _, _, _, _, _, _, _, _, _, _, _, _, _, _, _, _, _, _, _, _, _, _, _, _, _, _, _, _]) (z := _) [[], [], [0, 1], [], [], [0, 1, 2, 3, 4], [0, 1, 2, 3, 4, 5], [0, 1, 2, 3, 4, 5, 6], [0, 1, 2, 3, 4, 5, 6, 7], [0, 1, 2, 3, 4, 5, 6, 7], [0, 1, 2, 3, 4, 5, 6, 7, 8, 9], [0, 1, 2, 3, 4, 5, 6, 7], [0, 1, 2, 3, 4, 5, 6, 7], [0, 1, 2, 3, 4, 5, 6, 7, 8, 9, 10, 11, 12], [0, 1, 2, 3, 4, 5, 6, 7, 8, 9, 10, 11, 12, 13], [0, 1, 2, 3, 4, 5, 6, 7, 8, 9, 10, 11, 12, 13, 14], [0, 1, 2, 3, 4, 5, 6, 7, 8, 9, 10, 11, 12, 13, 14, 15], [0, 1, 2, 3, 4, 5, 6, 7, 8, 9, 10, 11, 12, 13, 14, 15, 16], [0, 1, 2, 3, 4, 5, 6, 7, 8, 9, 10, 11, 12, 13, 14, 15, 16, 17], [0, 1, 2, 3, 4, 5, 6, 7, 8, 9, 10, 11, 12, 13, 14, 15, 16], [0, 1, 2, 3, 4, 5, 6, 7, 8, 9, 10, 11, 12, 13, 14, 15, 16, 19], [0, 1, 2, 3, 4, 5, 6, 7, 8, 9, 10, 11, 12, 13, 14, 15, 16], [0, 1, 2, 3, 4, 5, 6, 7, 8, 9, 10, 11, 12, 13, 14, 15, 16, 21], [0, 1, 2, 3, 4, 5, 6, 7, 8, 9, 10, 11, 12, 13, 14, 15, 16, 21, 22], [0, 1, 2, 3, 4, 5, 6, 7, 8, 9, 10, 11, 12, 13, 14, 15, 16, 17, 18, 19, 20, 21, 22, 23], [0, 1, 2, 3, 4, 5, 6, 7, 8, 9, 10, 11, 12, 13, 14, 15, 16], [0, 1, 2, 3, 4, 5, 6, 7, 8, 9, 10, 11, 12, 13, 14, 15, 16, 17, 18, 19, 20, 21, 22, 23, 24, 25], [0, 1, 2, 3, 4, 5, 6, 7, 8, 9, 10, 11, 12, 13, 14, 15, 16], [0, 1, 2, 3, 4, 5, 6, 7, 8, 9, 10, 11, 12, 13, 14, 15, 16, 27], [0, 1, 2, 3, 4, 5, 6, 7, 8, 9, 10, 11, 12, 13, 14, 15, 16], [0, 1, 2, 3, 4, 5, 6, 7, 8, 9, 10, 11, 12, 13, 14, 15, 16, 27, 28, 29], [0, 1, 2, 3, 4, 5, 6, 7, 8, 9, 10, 11, 12, 13, 14, 15, 16, 17, 18, 19, 20, 21, 22, 23, 24, 25, 26, 27, 28, 29, 30], [0, 1, 2, 3, 4, 5, 6, 7, 8, 9, 10, 11, 12, 13, 14, 15, 16, 17, 18, 19, 20, 21, 22, 23, 24, 25, 26, 27, 28, 29, 30, 31], [0, 1, 2, 3, 4, 5, 6, 7, 8, 9, 10, 11, 12, 13, 14, 15, 16, 17, 18, 19, 20, 21, 22, 23, 24, 25, 26, 27, 28, 29, 30, 31, 32], [0, 1, 2, 3, 4, 5, 6, 7, 8, 9, 10, 11, 12, 13, 14, 15, 16, 17, 18, 19, 20, 21, 22, 23, 24, 25, 26, 27, 28, 29, 30, 31], [0, 1, 2, 3, 4, 5, 6, 7, 8, 9, 10, 11, 12, 13, 14, 15, 16, 17, 18, 19, 20, 21, 22, 23, 24, 25, 26, 27, 28, 29, 30, 31, 32, 33, 34], [0, 1, 2, 3, 4, 5, 6, 7, 8, 9, 10, 11, 12, 13, 14, 15, 16, 17, 18, 19, 20, 21, 22, 23, 24, 25, 26, 27, 28, 29, 30, 31, 32, 33, 34, 35], [0, 1, 2, 3, 4, 5, 6, 7, 8, 9, 10, 11, 12, 13, 14, 15, 16, 17, 18, 19, 20, 21, 22, 23, 24, 25, 26, 27, 28, 29, 30, 31, 32, 33, 34, 35, 36], [0, 1, 2, 3, 4, 5, 6, 7, 8, 9, 10, 11, 12, 13, 14, 15, 16, 17, 18, 19, 20, 21, 22, 23, 24, 25, 26, 27, 28, 29, 30, 31, 32, 33, 34, 35, 36, 37]] [2, 5, 10, 13, 26] [] (td := [(0, .fresh), (1, .fresh), (3, .fresh), (4, .fresh)]) rfl mixed (by kernel_rfl) (by kernel_rfl) (by kernel_rfl) (by decide) (by decide) rfl (by kernel_rfl) ?_
  refine god2 ?_
  refine Sg2.one (td := [(3, .old), (4, .old)]) rfl (by kernel_rfl) fun F2_ => ?_
  dsimp only [List.cons_append, List.nil_append]
  refine SpOp.eff rfl rfl rfl rfl rfl (Eff.call (R := ?_) (gate_Right g labels hg) rfl ?_ ?_)
  rotate_left
  · exact tkl_
  rintro _ -
  dsimp only [List.cons_append, List.nil_append]
  refine Sn.ok ?_
  refine god2 ?_
  refine Sg2.one (td := [(6, .fresh), (7, .fresh), (8, .fresh), (9, .fresh), (11, .fresh), (12, .fresh)]) rfl (by kernel_rfl) fun F5_ => ?_
  dsimp only [List.cons_append, List.nil_append]
  refine SpOp.eff rfl rfl rfl rfl rfl (Eff.call (R := ?_) (ref21_Right g labels) rfl ?_ ?_)
  rotate_left
  · exact tkl_
  rintro _ -
  dsimp only [List.cons_append, List.nil_append]
  refine Sn.ok ?_
  refine god2 ?_
  rw [show (gateOk g labels == gateOk g labels) = true from by simp]
  refine god2 ?_
  refine Sg2.one (td := [(11, .old), (12, .old)]) rfl (by kernel_rfl) fun F10_ => ?_
  dsimp only [List.cons_append, List.nil_append]
  refine SpOp.eff rfl rfl rfl rfl rfl (Eff.call (R := ?_) (gate_Right ⟨andI .i64 g.f_From 7, andI .i64 g.f_To 7, g.f_Need, andI .i64 g.f_Quota 8191⟩ (k % 9) hg) rfl ?_ ?_)
  rotate_left
  · exact tkl_
  rintro _ -
  dsimp only [List.cons_append, List.nil_append]
  refine Sn.ok ?_
  refine god2 ?_
  refine Sg2.one (td := [(14, .fresh), (15, .fresh), (16, .fresh), (17, .fresh), (18, .fresh), (19, .fresh), (20, .fresh), (21, .fresh), (22, .fresh), (23, .fresh), (24, .fresh), (25, .fresh), (27, .fresh), (28, .fresh), (29, .fresh), (30, .fresh)]) rfl (by kernel_rfl) fun F13_ => ?_
  dsimp only [List.cons_append, List.nil_append]
  refine SpOp.eff rfl rfl rfl rfl rfl (Eff.call (R := ?_) (ref21_Right ⟨andI .i64 g.f_From 7, andI .i64 g.f_To 7, g.f_Need, andI .i64 g.f_Quota 8191⟩ (k % 9)) rfl ?_ ?_)
  rotate_left
  · exact tkl_
  rintro _ -
  dsimp only [List.cons_append, List.nil_append]
  refine Sn.ok ?_
  refine god2 ?_
  rw [show ∀ x : Bool, (x == x) = true from by simp]
  refine god2 ?_
  refine Sg2.one (td := [(27, .old), (28, .old), (29, .old), (30, .old), (31, .fresh), (32, .fresh), (33, .fresh), (34, .fresh), (35, .fresh), (36, .fresh), (37, .fresh), (38, .fresh)]) rfl (by kernel_rfl) fun F26_ => ?_
  dsimp only [List.cons_append, List.nil_append]
  refine SpOp.eff rfl rfl rfl rfl rfl (Eff.call (R := ?_) (gate_Right ⟨andI .i64 g.f_From 7, andI .i64 g.f_To 7, andI .u32 g.f_Need 65535, 3⟩ (k % 9) ⟨a3.1, by dsimp only; omega⟩) rfl ?_ ?_)
  rotate_left
  · exact tkl_
  rintro _ -
  dsimp only [List.cons_append, List.nil_append]
  refine Sn.ok ?_
  rw [gateOk_in _ _ _ _ a1.1 a2.1 a3.2]
  refine god2 ?_
  cases h1 : decide (andI .i64 g.f_From 7 < k % 9) with
  | false =>
    refine god2 ?_
    refine go ?_
    refine Dn.ret1 rfl rfl fun w hs => ⟨(), ?_, by trivial, by first | exact hs | (refine hs.conv ?_; exact ent_)⟩
    rfl
  | true =>
    refine god2 ?_
    refine go ?_
    refine Dn.ret1 rfl rfl fun w hs => ⟨(), ?_, by trivial, by first | exact hs | (refine hs.conv ?_; exact ent_)⟩
    cases decide (andI .i64 g.f_To 7 < k % 9) <;> rfl
end Go.Proofs.Ytefmjphokgnobaa

