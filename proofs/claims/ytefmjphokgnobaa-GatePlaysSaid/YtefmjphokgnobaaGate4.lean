/- Contracts of functions of the program, proved in a small separation logic. Conditions: those that each theorem states. -/
import Derived.Test.YtefmjphokgnobaaGate3
namespace Go.Proofs.Ytefmjphokgnobaa
open Go Go.Sl
set_option maxHeartbeats 4000000
set_option maxRecDepth 100000
set_option linter.unusedVariables false
def pairV2 (p : Int × Int) : List Value := [.int .i64 p.1, .int .i64 p.2]
def cnt (s : GS) (n label : Int) : Int := (s.asked ⟨n, label⟩).getD 0
def askOk (F : Int → Int → Bool) (s : GS) (n label privs : Int) : Bool := decide (0 ≤ n ∧ n < (s.gates.length : Int)) && (F label (rd s.gates n).f_From && (privHas privs (rd s.gates n).f_Need && !decide ((rd s.gates n).f_Quota ≤ cnt s n label)))
abbrev askS (s : GS) (n label v b : Int) (wv : Value) : GS := { s with wv := wv, waits := s.waits ++ [⟨n, v, b⟩], asked := upd s.asked ⟨n, label⟩ (cnt s n label + 1) }
def askP (F : Int → Int → Bool) (s : GS) (n label privs v b : Int) (t : GS) : Prop := match askOk F s n label privs with
  | true => ∃ wv, t = askS s n label v b wv
  | false => t = s
-- FN (*confidant/gate.Gates).Ask
theorem gate_Ask (p : Nat) (s : GS) (F : Int → Int → Bool) (A : HProp) (hF : FnV (P := Try.prog) s.fl A pairV2 (fun _ => True) (fun p => .bool (F p.1 p.2))) (n label privs v b : Int)
    (hu : ∀ i : Int, 0 ≤ i → i < s.gates.length → u32 (rd s.gates i).f_Need) (hw : s.waits.length ≤ 1048576) (hc : 0 ≤ cnt s n label ∧ cnt s n label ≤ 1048576) :
    Sp Try.prog 13 [.pointer (some ⟨p, 0, none⟩), .int .i64 n, .int .i64 label, .int .u32 privs, .int .i32 v, .int .i32 b] (A :: gateH p s) (askP F s n label privs v b) (fun _ => .bool (askOk F s n label privs)) (fun t => A :: gateH p t) := by
  refine Sp.intro (n := 90) Try.func13 rfl rfl fun w0 R => ?_
  dsimp only [List.cons_append, List.nil_append, envOf]
  repeat(first|(with_reducible refine Ol.g ?_;first|(refine Ol.q rfl rfl rfl ?_ ?_;(first|exact True.intro|omega|(unfold in64;omega)|(simp only [List.length_append,List.length_cons,List.length_nil,List.length_set];omega)))|with_reducible refine Ol.nil ?_|refine Ol.skip rfl rfl ?_|refine Ol.eff rfl rfl rfl (Eff.x (Qx.build rfl) ?_)|refine Ol.skip0 rfl ?_|(refine Ol.ga ?_;dsimp only [List.append])|refine Ol.eff rfl rfl rfl (Eff.alloc fun _ => ?_)|refine Ol.eff rfl rfl rfl (Eff.box fun _ => ?_)|refine Ol.eff0 rfl rfl (Eff.store rfl rfl ?_)|refine Ol.eff rfl rfl rfl (Eff.bslice rfl rfl fun _ => ?_)|(refine Ol.eff0 rfl rfl (Eff.storeE rfl ?_ ?_);(first|exact True.intro|omega|(unfold in64;omega)|(simp only [List.length_append,List.length_cons,List.length_nil,List.length_set];omega)))|(refine Ol.eff rfl rfl rfl (Eff.append1 rfl ?_ fun _ => ?_);(first|exact True.intro|omega|(unfold in64;omega)|(simp only [List.length_append,List.length_cons,List.length_nil,List.length_set];omega))))|(with_reducible refine Cd.g ?_;first|with_reducible refine Cd.seq ?_|with_reducible refine Cd.region ?_|with_reducible refine Cd.skip ?_|with_reducible refine Cd.ret ?_|with_reducible refine Cd.block ?_|with_reducible refine Cd.exit ?_|(with_reducible refine Cd.condg ?_;first|refine Cd.cond_t rfl ?_|refine Cd.cond_f rfl ?_))|(with_reducible refine Dn.g ?_;first|with_reducible refine Dn.then ?_|with_reducible refine Dn.ret_then ?_|with_reducible refine Dn.ret_block ?_|with_reducible refine Dn.block ?_|with_reducible refine Dn.exit_then ?_|with_reducible refine Dn.exit_at ?_|with_reducible refine Dn.exit_by rfl ?_))
  rename_i c
  refine Cd.draw2 [[], [], [0, 1], [0, 1, 2], [0, 1, 2, 3], [0, 1, 2, 3, 4], [0, 1, 2, 3, 4, 5], [0, 1, 2, 3, 4, 5, 6], [0, 1, 2, 3, 4, 5, 6, 7], [0, 1, 2, 3, 4], [0, 1, 2, 3, 4], [0, 1, 2, 3, 4, 10], [0, 1, 2, 3, 4, 10, 11], [0, 1, 2, 3, 4, 10, 11, 12], [0, 1, 2, 3, 4], [0, 1, 2, 3, 4, 10, 11, 12, 13, 14], [0, 1, 2, 3, 4, 10, 11, 12, 13, 14, 15], [0, 1, 2, 3, 4, 10, 11, 12, 13, 14, 15, 16], [0, 1, 2, 3, 4, 5, 6, 7, 8, 9, 10, 11, 12, 13, 14, 15, 16, 17], [0, 1, 2, 3, 4, 5, 6, 7, 8, 9, 10, 11, 12, 13, 14, 15, 16, 17, 18], [0, 1, 2, 3, 4, 5, 6, 7, 8, 9, 10, 11, 12, 13, 14, 15, 16, 17, 18, 19], [0, 1, 2, 3, 4, 5, 6, 7, 8, 9, 10, 11, 12, 13, 14, 15, 16, 17, 18, 19, 20], [0, 1, 2, 3, 4, 5, 6, 7, 8, 9, 10, 11, 12, 13, 14, 15, 16, 17, 18, 19, 20, 21], [0, 1, 2, 3, 4, 5, 6, 7, 8, 9, 10, 11, 12, 13, 14, 15, 16, 17, 18, 19, 20, 21], [0, 1, 2, 3, 4, 5, 6, 7, 8, 9, 10, 11, 12, 13, 14, 15, 16, 17, 18, 19, 20, 21, 23], [0, 1, 2, 3, 4, 5, 6, 7, 8, 9, 10, 11, 12, 13, 14, 15, 16, 17, 18, 19, 20, 21, 23, 24], [0, 1, 2, 3, 4, 5, 6, 7, 8, 9, 10, 11, 12, 13, 14, 15, 16, 17, 18, 19, 20, 21, 23, 24, 25], [0, 1, 2, 3, 4, 5, 6, 7, 8, 9, 10, 11, 12, 13, 14, 15, 16, 17, 18, 19, 20, 21], [0, 1, 2, 3, 4, 5, 6, 7, 8, 9, 10, 11, 12, 13, 14, 15, 16, 17, 18, 19, 20, 21, 23, 24, 25, 26, 27], [0, 1, 2, 3, 4, 5, 6, 7, 8, 9, 10, 11, 12, 13, 14, 15, 16, 17, 18, 19, 20, 21, 23, 24, 25, 26, 27, 28], [0, 1, 2, 3, 4, 5, 6, 7, 8, 9, 10, 11, 12, 13, 14, 15, 16, 17, 18, 19, 20, 21, 23, 24, 25, 26, 27, 28, 29], [0, 1, 2, 3, 4, 5, 6, 7, 8, 9, 10, 11, 12, 13, 14, 15, 16, 17, 18, 19, 20, 21, 22, 23, 24, 25, 26, 27, 28, 29, 30], [0, 1, 2, 3, 4, 5, 6, 7, 8, 9, 10, 11, 12, 13, 14, 15, 16, 17, 18, 19, 20, 21, 22, 23, 24, 25, 26, 27, 28, 29, 30, 31], [0, 1, 2, 3, 4, 5, 6, 7, 8, 9, 10, 11, 12, 13, 14, 15, 16, 17, 18, 19, 20, 21, 22, 23, 24, 25, 26, 27, 28, 29, 30, 31, 32], [0, 1, 2, 3, 4, 5, 6, 7, 8, 9, 10, 11, 12, 13, 14, 15, 16, 17, 18, 19, 20, 21, 22, 23, 24, 25, 26, 27, 28, 29, 30, 31, 32, 33], [0, 1, 2, 3, 4, 5, 6, 7, 8, 9, 10, 11, 12, 13, 14, 15, 16, 17, 18, 19, 20, 21, 22, 23, 24, 25, 26, 27, 28, 29, 30, 31, 32, 33, 34], [0, 1, 2, 3, 4, 5, 6, 7, 8, 9, 10, 11, 12, 13, 14, 15, 16, 17, 18, 19, 20, 21, 22, 23, 24, 25, 26, 27, 28, 29, 30, 31, 32, 33, 34, 35], [0, 1, 2, 3, 4, 5, 6, 7, 8, 9, 10, 11, 12, 13, 14, 15, 16, 17, 18, 19, 20, 21, 22, 23, 24, 25, 26, 27, 28, 29, 30, 31, 32, 33, 34, 35, 36], [0, 1, 2, 3, 4, 5, 6, 7, 8, 9, 10, 11, 12, 13, 14, 15, 16, 17, 18, 19, 20, 21, 22, 23, 24, 25, 26, 27, 28, 29, 30, 31, 32, 33, 34, 35, 36, 37], [0, 1, 2, 3, 4, 5, 6, 7, 8, 9, 10, 11, 12, 13, 14, 15, 16, 17, 18, 19, 20, 21, 22, 23, 24, 25, 26, 27, 28, 29, 30, 31, 32, 33, 34], [0, 1, 2, 3, 4, 5, 6, 7, 8, 9, 10, 11, 12, 13, 14, 15, 16, 17, 18, 19, 20, 21, 22, 23, 24, 25, 26, 27, 28, 29, 30, 31, 32, 33, 34, 35, 36, 37, 38, 39], [0, 1, 2, 3, 4, 5, 6, 7, 8, 9, 10, 11, 12, 13, 14, 15, 16, 17, 18, 19, 20, 21, 22, 23, 24, 25, 26, 27, 28, 29, 30, 31, 32, 33, 34], [0, 1, 2, 3, 4, 5, 6, 7, 8, 9, 10, 11, 12, 13, 14, 15, 16, 17, 18, 19, 20, 21, 22, 23, 24, 25, 26, 27, 28, 29, 30, 31, 32, 33, 34, 41], [0, 1, 2, 3, 4, 5, 6, 7, 8, 9, 10, 11, 12, 13, 14, 15, 16, 17, 18, 19, 20, 21, 22, 23, 24, 25, 26, 27, 28, 29, 30, 31, 32, 33, 34, 41, 42], [0, 1, 2, 3, 4, 5, 6, 7, 8, 9, 10, 11, 12, 13, 14, 15, 16, 17, 18, 19, 20, 21, 22, 23, 24, 25, 26, 27, 28, 29, 30, 31, 32, 33, 34, 41, 42, 43], [0, 1, 2, 3, 4, 5, 6, 7, 8, 9, 10, 11, 12, 13, 14, 15, 16, 17, 18, 19, 20, 21, 22, 23, 24, 25, 26, 27, 28, 29, 30, 31, 32, 33, 34], [0, 1, 2, 3, 4, 5, 6, 7, 8, 9, 10, 11, 12, 13, 14, 15, 16, 17, 18, 19, 20, 21, 22, 23, 24, 25, 26, 27, 28, 29, 30, 31, 32, 33, 34, 41, 42, 43, 44, 45], [0, 1, 2, 3, 4, 5, 6, 7, 8, 9, 10, 11, 12, 13, 14, 15, 16, 17, 18, 19, 20, 21, 22, 23, 24, 25, 26, 27, 28, 29, 30, 31, 32, 33, 34, 41, 42, 43, 44, 45, 46], [0, 1, 2, 3, 4, 5, 6, 7, 8, 9, 10, 11, 12, 13, 14, 15, 16, 17, 18, 19, 20, 21, 22, 23, 24, 25, 26, 27, 28, 29, 30, 31, 32, 33, 34, 41, 42, 43, 44, 45, 46, 47], [0, 1, 2, 3, 4, 5, 6, 7, 8, 9, 10, 11, 12, 13, 14, 15, 16, 17, 18, 19, 20, 21, 22, 23, 24, 25, 26, 27, 28, 29, 30, 31, 32, 33, 34, 35, 36, 37, 38, 39, 40, 41, 42, 43, 44, 45, 46, 47, 48], [0, 1, 2, 3, 4, 5, 6, 7, 8, 9, 10, 11, 12, 13, 14, 15, 16, 17, 18, 19, 20, 21, 22, 23, 24, 25, 26, 27, 28, 29, 30, 31, 32, 33, 34, 35, 36, 37, 38, 39, 40, 41, 42, 43, 44, 45, 46, 47, 48, 49]] [2, 18, 31] [] (td := [(0, .fresh), (1, .fresh)]) mixed (by kernel_rfl) (by kernel_rfl) (by decide) (by decide) rfl (by kernel_rfl) ?_
  refine god2 ?_
  refine Sg2.one (td := [(3, .fresh), (4, .fresh), (5, .fresh), (6, .fresh), (7, .fresh), (8, .fresh), (9, .fresh), (10, .fresh), (11, .fresh), (12, .fresh), (13, .fresh), (14, .fresh), (15, .fresh), (16, .fresh), (17, .fresh)]) rfl (by kernel_rfl) fun F2_ => ?_
  dsimp only [List.cons_append, List.nil_append]
  refine SpOp.eff rfl rfl rfl rfl rfl (Eff.call (R := ?_) (gate_has p s.fl s.gs s.wv s.ov s.am s.sm s.gates n) rfl ?_ ?_)
  rotate_left
  · exact tkl_
  rintro _ -
  dsimp only [List.cons_append, List.nil_append]
  refine Sn.ok ?_
  cases h1 : decide (0 ≤ n ∧ n < (s.gates.length : Int)) with
  | false =>
    refine god2 ?_
    refine Sg2.one (td := [(19, .fresh), (20, .fresh), (21, .fresh), (22, .fresh), (23, .fresh), (24, .fresh), (25, .fresh), (26, .fresh), (27, .fresh), (28, .fresh), (29, .fresh), (30, .fresh)]) rfl (by kernel_rfl) fun F18_ => ?_
    dsimp only [List.cons_append, List.nil_append]
    refine SpOp.skip rfl rfl rfl rfl (Sn.ok ?_)
    refine god2 ?_
    refine Sg2.one (td := [(32, .fresh), (33, .fresh), (34, .fresh), (35, .fresh), (36, .fresh), (37, .fresh), (38, .fresh), (39, .fresh), (40, .fresh), (41, .fresh), (42, .fresh), (43, .fresh), (44, .fresh), (45, .fresh), (46, .fresh), (47, .fresh), (48, .fresh), (49, .fresh), (50, .fresh)]) rfl (by kernel_rfl) fun F31_ => ?_
    dsimp only [List.cons_append, List.nil_append]
    refine SpOp.skip rfl rfl rfl rfl (Sn.ok ?_)
    refine god2 ?_
    refine go ?_
    have e : askOk F s n label privs = false := by unfold askOk; rw [h1]; rfl
    refine Dn.ret1 rfl rfl fun w hs => ⟨s, by rw [e], by unfold askP; rw [e], hs.conv (show ents _ (A :: gateH p s ++ R) from by exact ent_)⟩
  | true =>
  have hn := of_decide_eq_true h1
  refine god2 ?_
  refine Sg2.one (td := [(19, .fresh), (20, .fresh), (21, .fresh), (22, .fresh), (23, .fresh), (24, .fresh), (25, .fresh), (26, .fresh), (27, .fresh), (28, .fresh), (29, .fresh), (30, .fresh)]) rfl (by kernel_rfl) fun F18_ => ?_
  dsimp only [List.cons_append, List.nil_append]
  refine SpOp.eff rfl rfl rfl rfl rfl (Eff.callV (R := ?_) hF (label, (rd s.gates n).f_From) trivial rfl ?_ ?_)
  rotate_left
  · exact tkl_
  dsimp only
  refine Sn.ok ?_
  cases h2 : F label (rd s.gates n).f_From with
  | false =>
    refine god2 ?_
    refine Sg2.one (td := [(32, .fresh), (33, .fresh), (34, .fresh), (35, .fresh), (36, .fresh), (37, .fresh), (38, .fresh), (39, .fresh), (40, .fresh), (41, .fresh), (42, .fresh), (43, .fresh), (44, .fresh), (45, .fresh), (46, .fresh), (47, .fresh), (48, .fresh), (49, .fresh), (50, .fresh)]) rfl (by kernel_rfl) fun F31_ => ?_
    dsimp only [List.cons_append, List.nil_append]
    refine SpOp.skip rfl rfl rfl rfl (Sn.ok ?_)
    refine god2 ?_
    refine go ?_
    have e : askOk F s n label privs = false := by unfold askOk; rw [h1, h2]; rfl
    refine Dn.ret1 rfl rfl fun w hs => ⟨s, by rw [e], by unfold askP; rw [e], hs.conv (show ents _ (A :: gateH p s ++ R) from by exact ent_)⟩
  | true =>
  refine god2 ?_
  refine Sg2.one (td := [(32, .fresh), (33, .fresh), (34, .fresh), (35, .fresh), (36, .fresh), (37, .fresh), (38, .fresh), (39, .fresh), (40, .fresh), (41, .fresh), (42, .fresh), (43, .fresh), (44, .fresh), (45, .fresh), (46, .fresh), (47, .fresh), (48, .fresh), (49, .fresh), (50, .fresh)]) rfl (by kernel_rfl) fun F31_ => ?_
  dsimp only [List.cons_append, List.nil_append]
  refine SpOp.eff rfl rfl rfl rfl rfl (Eff.call (R := ?_) (priv_Has privs (rd s.gates n).f_Need (hu n hn.1 hn.2)) rfl ?_ ?_)
  rotate_left
  · exact tkl_
  rintro _ -
  dsimp only [List.cons_append, List.nil_append]
  refine Sn.ok ?_
  cases h3 : privHas privs (rd s.gates n).f_Need with
  | false =>
    refine god2 ?_
    refine go ?_
    have e : askOk F s n label privs = false := by unfold askOk; rw [h1, h2, h3]; rfl
    refine Dn.ret1 rfl rfl fun w hs => ⟨s, by rw [e], by unfold askP; rw [e], hs.conv (show ents _ (A :: gateH p s ++ R) from by exact ent_)⟩
  | true =>
  refine god2 ?_
  refine go ?_
  refine Cd.cond rfl (fun h4 => ?_) (fun h4 => ?_)
  · refine go ?_
    have e : askOk F s n label privs = false := by unfold askOk; rw [h1, h2, h3, show decide ((rd s.gates n).f_Quota ≤ cnt s n label) = true from h4]; rfl
    refine Dn.ret1 rfl rfl fun w hs => ⟨s, by rw [e], by unfold askP; rw [e], hs.conv (show ents _ (A :: gateH p s ++ R) from by exact ent_)⟩
  have e : askOk F s n label privs = true := by unfold askOk; rw [h1, h2, h3, show decide ((rd s.gates n).f_Quota ≤ cnt s n label) = false from h4]; rfl
  refine go ?_
  refine Cd.cut0 (α := Unit) (fun _ => [(0, .pointer (some ⟨p, 0, none⟩)), (1, .int .i64 n), (4, .int .i32 v), (5, .int .i32 b)]) (fun _ => A :: gateH p { s with asked := upd s.asked ⟨n, label⟩ (cnt s n label + 1) } ++ R) (fun kk => ?_) ?_
  · unfold cnt at hc kk
    refine Cd.draw2 [[], [0], [0, 1], [0, 1, 2], [], [0, 1, 2, 3, 4], [0, 1, 2, 3, 4, 5], [0, 1, 2, 3, 4], [0, 1, 2, 3, 4, 7], [0, 1, 2, 3, 4, 5, 6, 7, 8]] [7, 9] [] (td := [(0, .fresh), (1, .fresh), (2, .fresh), (3, .fresh), (4, .fresh), (5, .fresh), (6, .fresh)]) mixed (by kernel_rfl) (by kernel_rfl) (by decide) (by decide) rfl (by kernel_rfl) ?_
    refine god2 ?_
    refine Sg2.one (td := [(5, .old), (6, .old), (8, .fresh)]) rfl (by kernel_rfl) fun F7_ => ?_
    dsimp only [List.cons_append, List.nil_append]
    refine SpOp.eff rfl rfl rfl rfl rfl (Eff.ment fun st => ?_)
    refine Sn.ok ?_
    refine god2 ?_
    refine Sg2.one (td := []) rfl (by kernel_rfl) fun F9_ => ?_
    dsimp only [List.cons_append, List.nil_append]
    refine SpOp.eff0 rfl rfl rfl rfl (Eff.esto ?_)
    refine Sn.ok ?_
    refine god2 ?_
    exact Dn.weak (by repeat(first|exact Env.le_nil _|(refine Env.le_cons rfl ?_ ?_;first|rfl|(simp;done)|exact congrArg _ (by omega)|rotate_left))) (by exact ent_) (kk ())
  rintro -
  dsimp only [List.cons_append, List.nil_append]
  repeat(first|(with_reducible refine Ol.g ?_;first|(refine Ol.q rfl rfl rfl ?_ ?_;(first|exact True.intro|omega|(unfold in64;omega)|(simp only [List.length_append,List.length_cons,List.length_nil,List.length_set];omega)))|with_reducible refine Ol.nil ?_|refine Ol.skip rfl rfl ?_|refine Ol.eff rfl rfl rfl (Eff.x (Qx.build rfl) ?_)|refine Ol.skip0 rfl ?_|(refine Ol.ga ?_;dsimp only [List.append])|refine Ol.eff rfl rfl rfl (Eff.alloc fun _ => ?_)|refine Ol.eff rfl rfl rfl (Eff.box fun _ => ?_)|refine Ol.eff0 rfl rfl (Eff.store rfl rfl ?_)|refine Ol.eff rfl rfl rfl (Eff.bslice rfl rfl fun _ => ?_)|(refine Ol.eff0 rfl rfl (Eff.storeE rfl ?_ ?_);(first|exact True.intro|omega|(unfold in64;omega)|(simp only [List.length_append,List.length_cons,List.length_nil,List.length_set];omega)))|(refine Ol.eff rfl rfl rfl (Eff.append1 rfl ?_ fun _ => ?_);(first|exact True.intro|omega|(unfold in64;omega)|(simp only [List.length_append,List.length_cons,List.length_nil,List.length_set];omega))))|(with_reducible refine Cd.g ?_;first|with_reducible refine Cd.seq ?_|with_reducible refine Cd.region ?_|with_reducible refine Cd.skip ?_|with_reducible refine Cd.ret ?_|with_reducible refine Cd.block ?_|with_reducible refine Cd.exit ?_|(with_reducible refine Cd.condg ?_;first|refine Cd.cond_t rfl ?_|refine Cd.cond_f rfl ?_))|(with_reducible refine Dn.g ?_;first|with_reducible refine Dn.then ?_|with_reducible refine Dn.ret_then ?_|with_reducible refine Dn.ret_block ?_|with_reducible refine Dn.block ?_|with_reducible refine Dn.exit_then ?_|with_reducible refine Dn.exit_at ?_|with_reducible refine Dn.exit_by rfl ?_))
  rename_i wv
  refine Dn.ret1 rfl rfl fun w hs => ⟨askS s n label v b wv, by rw [e], by unfold askP; rw [e]; exact ⟨wv, rfl⟩, hs.conv (show ents _ (A :: gateH p (askS s n label v b wv) ++ R) from by exact ent_)⟩
end Go.Proofs.Ytefmjphokgnobaa

