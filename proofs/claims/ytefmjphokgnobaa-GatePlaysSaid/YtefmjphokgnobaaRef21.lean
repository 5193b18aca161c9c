/- Contracts of functions of the program, proved in a small separation logic. Conditions: those that each theorem states. -/
import Derived.Test.YtefmjphokgnobaaGate5
import Derived.Test.YtefmjphokgnobaaRef2a
import Derived.Test.YtefmjphokgnobaaGate1
namespace Go.Proofs.Ytefmjphokgnobaa
open Go Go.Sl
set_option maxHeartbeats 4000000
set_option maxRecDepth 100000
set_option linter.unusedVariables false
/-- The reference's gates. -/
structure RS where
  v : Value
  gv : Value
  av : Value
  wv : Value
  ov : Value
  sv : Value
  rows : List Value
  q : List (List Bool)
  gates : List S_api_Gate
  asked : List S_A2_int
  waits : List S_confidantref21_waits
  orow : List Value
  outs : List (List Int)
  seq : List Int
abbrev refH (p : Nat) (s : RS) : List HProp := [cel p 86 [s.v, s.gv, s.av, s.wv, s.ov, s.sv], rsl eVal s.v s.rows, rws true eBool s.rows s.q, rsl e_api_Gate s.gv s.gates, sl e_A2_int s.av s.asked, sl e_confidantref21_waits s.wv s.waits, sl eVal s.ov s.orow, rws false (eInt .i32) s.orow s.outs, sl (eInt .i64) s.sv s.seq]
def cntR (l : List S_A2_int) (n label : Int) : Int := ((l.filter fun x => decide (x = ⟨n, label⟩)).length : Int)
theorem cntR_succ {l : List S_A2_int} {k : Nat} (h : k < l.length) (n label : Int) (d : Dfl S_A2_int) : cntR (l.take (k + 1)) n label = if (@rd _ d l k) = ⟨n, label⟩ then cntR (l.take k) n label + 1 else cntR (l.take k) n label := by
  unfold cntR
  rw [@take_rd _ d _ _ h, List.filter_append]
  by_cases e : (@rd _ d l k) = ⟨n, label⟩
  · rw [if_pos e]; simp [e]
  · rw [if_neg e]; simp [e]
theorem cntR_le (l : List S_A2_int) (n label : Int) : 0 ≤ cntR l n label ∧ cntR l n label ≤ l.length := by
  unfold cntR
  have := List.length_filter_le (fun x => decide (x = (⟨n, label⟩ : S_A2_int))) l
  omega
-- FN (*confidant/confidantref21.Gates).Asked
theorem ref21_Asked (p : Nat) (s : RS) (n label : Int) (hm : s.asked.length ≤ 1000000) :
    Sp Try.prog 23 [.pointer (some ⟨p, 0, none⟩), .int .i64 n, .int .i64 label] (refH p s) (fun _ : Unit => True) (fun _ => .int .i64 (cntR s.asked n label)) (fun _ => refH p s) := by
  refine Sp.intro (n := 32) Try.func23 rfl rfl fun w0 R => ?_
  dsimp only [List.cons_append, List.nil_append, envOf]
  refine go ?_
  refine Cd.loop (fun k : Nat => k ≤ s.asked.length) (fun k => s.asked.length - k) (fun k => [(0, .pointer (some ⟨p, 0, none⟩)), (1, .int .i64 n), (2, .int .i64 label), (7, .int .i64 (cntR (s.asked.take k) n label)), (8, .int .i64 k)]) (fun _ => _) 0 (by omega) ?_ (ents.refl _) fun k hk => ?_
  · repeat(first|exact Env.le_nil _|(refine Env.le_cons rfl ?_ ?_;first|rfl|(simp;done)|exact congrArg _ (by omega)|rotate_left))
  have hc := cntR_le (s.asked.take k) n label
  have htl : (s.asked.take k).length = k := by simp; omega
  refine go ?_
  refine Cd.condP rfl (fun h => ?_) (fun h => ?_)
  · have hk' : k < s.asked.length := by omega
    have hs := cntR_succ hk' n label inferInstance
    refine go ?_
    refine Ol.eff rfl rfl rfl (Eff.x (Qx.buildA rfl) ?_)
    refine go ?_
    refine Cd.condP rfl (fun h2 => ?_) (fun h2 => ?_)
    · refine go ?_
      refine Dn.round (k + 1) (by omega) (by omega) ?_ (ents.refl _)
      rw [hs, if_pos h2]
      repeat(first|exact Env.le_nil _|(refine Env.le_cons rfl ?_ ?_;first|rfl|(simp;done)|exact congrArg _ (by omega)|rotate_left))
    · refine go ?_
      refine Dn.round (k + 1) (by omega) (by omega) ?_ (ents.refl _)
      rw [hs, if_neg h2]
      repeat(first|exact Env.le_nil _|(refine Env.le_cons rfl ?_ ?_;first|rfl|(simp;done)|exact congrArg _ (by omega)|rotate_left))
  · have hke : k = s.asked.length := by omega
    subst hke
    rw [List.take_length]
    refine go ?_
    refine Dn.ret1 rfl rfl fun w hs => ⟨(), rfl, trivial, hs⟩
def refAsk (s : RS) (n label privs : Int) : Bool := !(decide (n < 0) || decide ((s.gates.length : Int) ≤ n)) && (flR s.q label (rd s.gates n).f_From && (privHas privs (rd s.gates n).f_Need && !decide ((rd s.gates n).f_Quota ≤ cntR s.asked n label)))
abbrev refAskS (s : RS) (n label v b : Int) (av wv : Value) : RS := { s with av := av, wv := wv, asked := s.asked ++ [⟨n, label⟩], waits := s.waits ++ [⟨n, v, b⟩] }
def refAskP (s : RS) (n label privs v b : Int) (t : RS) : Prop := match refAsk s n label privs with
  | true => ∃ av wv, t = refAskS s n label v b av wv
  | false => t = s
-- FN (*confidant/confidantref21.Gates).Ask
theorem ref21_Ask (p : Nat) (s : RS) (n label privs v b : Int) (hl : s.rows.length = s.q.length) (hq : s.q.length ≤ 1000000) (hm : s.asked.length ≤ 100000) (hw : s.waits.length ≤ 1000000) :
    Sp Try.prog 14 [.pointer (some ⟨p, 0, none⟩), .int .i64 n, .int .i64 label, .int .u32 privs, .int .i32 v, .int .i32 b] (refH p s) (refAskP s n label privs v b) (fun _ => .bool (refAsk s n label privs)) (fun t => refH p t) := by
  have hno : refAsk s n label privs = false → ∀ (w0 : World) (R : List HProp) (w : World), St w0 (refH p s ++ R) w → ∃ x, Value.bool false = Value.bool (refAsk s n label privs) ∧ refAskP s n label privs v b x ∧ St w0 (refH p x ++ R) w := fun e w0 R w hs =>
    ⟨s, by rw [e], by unfold refAskP; rw [e], hs⟩
  refine Sp.intro (n := 94) Try.func14 rfl rfl fun w0 R => ?_
  dsimp only [List.cons_append, List.nil_append, envOf]
  refine go ?_
  refine Cd.draw2 [[], [0], [0, 1], [0, 1, 2], [0, 1, 2], [0, 1, 2, 4], [0, 1, 2, 4, 5], [0, 1, 2, 4, 5, 6], [0, 1, 2, 4, 5, 6, 7], [0, 1, 2, 3, 4, 5, 6, 7, 8], [0, 1, 2, 3, 4, 5, 6, 7, 8, 9], [0, 1, 2, 3, 4, 5, 6, 7, 8, 9, 10], [0, 1, 2, 3, 4, 5, 6, 7, 8, 9, 10, 11], [0, 1, 2, 3, 4, 5, 6, 7, 8, 9, 10, 11, 12], [0, 1, 2, 3, 4, 5, 6, 7, 8, 9, 10, 11, 12, 13], [0, 1, 2, 3, 4, 5, 6, 7, 8, 9, 10, 11, 12, 13, 14], [0, 1, 2, 3, 4, 5, 6, 7, 8, 9, 10, 11], [0, 1, 2, 3, 4, 5, 6, 7, 8, 9, 10, 11], [0, 1, 2, 3, 4, 5, 6, 7, 8, 9, 10, 11, 17], [0, 1, 2, 3, 4, 5, 6, 7, 8, 9, 10, 11, 17, 18], [0, 1, 2, 3, 4, 5, 6, 7, 8, 9, 10, 11, 17, 18, 19], [0, 1, 2, 3, 4, 5, 6, 7, 8, 9, 10, 11], [0, 1, 2, 3, 4, 5, 6, 7, 8, 9, 10, 11, 17, 18, 19, 20, 21], [0, 1, 2, 3, 4, 5, 6, 7, 8, 9, 10, 11, 17, 18, 19, 20, 21, 22], [0, 1, 2, 3, 4, 5, 6, 7, 8, 9, 10, 11, 17, 18, 19, 20, 21, 22, 23], [0, 1, 2, 3, 4, 5, 6, 7, 8, 9, 10, 11, 12, 13, 14, 15, 16, 17, 18, 19, 20, 21, 22, 23, 24], [0, 1, 2, 3, 4, 5, 6, 7, 8, 9, 10, 11, 12, 13, 14, 15, 16, 17, 18, 19, 20, 21, 22, 23, 24, 25], [0, 1, 2, 3, 4, 5, 6, 7, 8, 9, 10, 11, 12, 13, 14, 15, 16, 17, 18, 19, 20, 21, 22, 23, 24, 25, 26], [0, 1, 2, 3, 4, 5, 6, 7, 8, 9, 10, 11, 12, 13, 14, 15, 16, 17, 18, 19, 20, 21, 22, 23, 24, 25, 26, 27], [0, 1, 2, 3, 4, 5, 6, 7, 8, 9, 10, 11, 12, 13, 14, 15, 16, 17, 18, 19, 20, 21, 22, 23, 24, 25, 26, 27, 28], [0, 1, 2, 3, 4, 5, 6, 7, 8, 9, 10, 11, 12, 13, 14, 15, 16, 17, 18, 19, 20, 21, 22, 23, 24, 25, 26, 27, 28], [0, 1, 2, 3, 4, 5, 6, 7, 8, 9, 10, 11, 12, 13, 14, 15, 16, 17, 18, 19, 20, 21, 22, 23, 24, 25, 26, 27, 28, 30], [0, 1, 2, 3, 4, 5, 6, 7, 8, 9, 10, 11, 12, 13, 14, 15, 16, 17, 18, 19, 20, 21, 22, 23, 24, 25, 26, 27, 28, 30, 31], [0, 1, 2, 3, 4, 5, 6, 7, 8, 9, 10, 11, 12, 13, 14, 15, 16, 17, 18, 19, 20, 21, 22, 23, 24, 25, 26, 27, 28, 30, 31, 32], [0, 1, 2, 3, 4, 5, 6, 7, 8, 9, 10, 11, 12, 13, 14, 15, 16, 17, 18, 19, 20, 21, 22, 23, 24, 25, 26, 27, 28], [0, 1, 2, 3, 4, 5, 6, 7, 8, 9, 10, 11, 12, 13, 14, 15, 16, 17, 18, 19, 20, 21, 22, 23, 24, 25, 26, 27, 28, 30, 31, 32, 33, 34], [0, 1, 2, 3, 4, 5, 6, 7, 8, 9, 10, 11, 12, 13, 14, 15, 16, 17, 18, 19, 20, 21, 22, 23, 24, 25, 26, 27, 28, 30, 31, 32, 33, 34, 35], [0, 1, 2, 3, 4, 5, 6, 7, 8, 9, 10, 11, 12, 13, 14, 15, 16, 17, 18, 19, 20, 21, 22, 23, 24, 25, 26, 27, 28, 30, 31, 32, 33, 34, 35, 36], [0, 1, 2, 3, 4, 5, 6, 7, 8, 9, 10, 11, 12, 13, 14, 15, 16, 17, 18, 19, 20, 21, 22, 23, 24, 25, 26, 27, 28, 29, 30, 31, 32, 33, 34, 35, 36, 37], [0, 1, 2, 3, 4, 5, 6, 7, 8, 9, 10, 11, 12, 13, 14, 15, 16, 17, 18, 19, 20, 21, 22, 23, 24, 25, 26, 27, 28, 29, 30, 31, 32, 33, 34, 35, 36, 37, 38], [0, 1, 2, 3, 4, 5, 6, 7, 8, 9, 10, 11, 12, 13, 14, 15, 16, 17, 18, 19, 20, 21, 22, 23, 24, 25, 26, 27, 28, 29, 30, 31, 32, 33, 34, 35, 36, 37, 38, 39], [0, 1, 2, 3, 4, 5, 6, 7, 8, 9, 10, 11, 12, 13, 14, 15, 16, 17, 18, 19, 20, 21, 22, 23, 24, 25, 26, 27, 28, 29, 30, 31, 32, 33, 34, 35, 36, 37, 38, 39, 40], [0, 1, 2, 3, 4, 5, 6, 7, 8, 9, 10, 11, 12, 13, 14, 15, 16, 17, 18, 19, 20, 21, 22, 23, 24, 25, 26, 27, 28, 29, 30, 31, 32, 33, 34, 35, 36, 37, 38, 39, 40, 41], [0, 1, 2, 3, 4, 5, 6, 7, 8, 9, 10, 11, 12, 13, 14, 15, 16, 17, 18, 19, 20, 21, 22, 23, 24, 25, 26, 27, 28, 29, 30, 31, 32, 33, 34, 35, 36, 37, 38, 39, 40, 41], [0, 1, 2, 3, 4, 5, 6, 7, 8, 9, 10, 11, 12, 13, 14, 15, 16, 17, 18, 19, 20, 21, 22, 23, 24, 25, 26, 27, 28, 29, 30, 31, 32, 33, 34, 35, 36, 37, 38, 39, 40, 41], [0, 1, 2, 3, 4, 5, 6, 7, 8, 9, 10, 11, 12, 13, 14, 15, 16, 17, 18, 19, 20, 21, 22, 23, 24, 25, 26, 27, 28, 29, 30, 31, 32, 33, 34, 35, 36, 37, 38, 39, 40, 41, 42, 43, 44], [0, 1, 2, 3, 4, 5, 6, 7, 8, 9, 10, 11, 12, 13, 14, 15, 16, 17, 18, 19, 20, 21, 22, 23, 24, 25, 26, 27, 28, 29, 30, 31, 32, 33, 34, 35, 36, 37, 38, 39, 40, 41], [0, 1, 2, 3, 4, 5, 6, 7, 8, 9, 10, 11, 12, 13, 14, 15, 16, 17, 18, 19, 20, 21, 22, 23, 24, 25, 26, 27, 28, 29, 30, 31, 32, 33, 34, 35, 36, 37, 38, 39, 40, 41, 46], [0, 1, 2, 3, 4, 5, 6, 7, 8, 9, 10, 11, 12, 13, 14, 15, 16, 17, 18, 19, 20, 21, 22, 23, 24, 25, 26, 27, 28, 29, 30, 31, 32, 33, 34, 35, 36, 37, 38, 39, 40, 41, 46, 47], [0, 1, 2, 3, 4, 5, 6, 7, 8, 9, 10, 11, 12, 13, 14, 15, 16, 17, 18, 19, 20, 21, 22, 23, 24, 25, 26, 27, 28, 29, 30, 31, 32, 33, 34, 35, 36, 37, 38, 39, 40, 41, 46, 47, 48], [0, 1, 2, 3, 4, 5, 6, 7, 8, 9, 10, 11, 12, 13, 14, 15, 16, 17, 18, 19, 20, 21, 22, 23, 24, 25, 26, 27, 28, 29, 30, 31, 32, 33, 34, 35, 36, 37, 38, 39, 40, 41], [0, 1, 2, 3, 4, 5, 6, 7, 8, 9, 10, 11, 12, 13, 14, 15, 16, 17, 18, 19, 20, 21, 22, 23, 24, 25, 26, 27, 28, 29, 30, 31, 32, 33, 34, 35, 36, 37, 38, 39, 40, 41, 46, 47, 48, 49, 50], [0, 1, 2, 3, 4, 5, 6, 7, 8, 9, 10, 11, 12, 13, 14, 15, 16, 17, 18, 19, 20, 21, 22, 23, 24, 25, 26, 27, 28, 29, 30, 31, 32, 33, 34, 35, 36, 37, 38, 39, 40, 41, 46, 47, 48, 49, 50, 51], [0, 1, 2, 3, 4, 5, 6, 7, 8, 9, 10, 11, 12, 13, 14, 15, 16, 17, 18, 19, 20, 21, 22, 23, 24, 25, 26, 27, 28, 29, 30, 31, 32, 33, 34, 35, 36, 37, 38, 39, 40, 41, 46, 47, 48, 49, 50, 51, 52], [0, 1, 2, 3, 4, 5, 6, 7, 8, 9, 10, 11, 12, 13, 14, 15, 16, 17, 18, 19, 20, 21, 22, 23, 24, 25, 26, 27, 28, 29, 30, 31, 32, 33, 34, 35, 36, 37, 38, 39, 40, 41, 42, 43, 44, 45, 46, 47, 48, 49, 50, 51, 52, 53], [0, 1, 2, 3, 4, 5, 6, 7, 8, 9, 10, 11, 12, 13, 14, 15, 16, 17, 18, 19, 20, 21, 22, 23, 24, 25, 26, 27, 28, 29, 30, 31, 32, 33, 34, 35, 36, 37, 38, 39, 40, 41, 42, 43, 44, 45, 46, 47, 48, 49, 50, 51, 52, 53, 54]] [25, 38, 45] [] (td := [(0, .fresh), (1, .fresh), (2, .fresh), (3, .fresh), (4, .fresh), (5, .fresh), (6, .fresh), (7, .fresh), (8, .fresh), (9, .fresh), (10, .fresh), (11, .fresh), (12, .fresh), (13, .fresh), (14, .fresh), (15, .fresh), (16, .fresh), (17, .fresh), (18, .fresh), (19, .fresh), (20, .fresh), (21, .fresh), (22, .fresh), (23, .fresh), (24, .fresh)]) mixed (by kernel_rfl) (by kernel_rfl) (by decide) (by decide) rfl (by kernel_rfl) ?_
  refine god2 ?_
  cases h1 : decide (n < 0) with
  | true =>
    have e : refAsk s n label privs = false := by unfold refAsk; rw [h1]; rfl
    refine god2 ?_
    refine Sg2.one (td := [(26, .fresh), (27, .fresh), (28, .fresh), (29, .fresh), (30, .fresh), (31, .fresh), (32, .fresh), (33, .fresh), (34, .fresh), (35, .fresh), (36, .fresh), (37, .fresh)]) rfl (by kernel_rfl) fun F25_ => ?_
    dsimp only [List.cons_append, List.nil_append]
    refine SpOp.skip rfl rfl rfl rfl (Sn.ok ?_)
    refine god2 ?_
    refine Sg2.one (td := [(39, .fresh), (40, .fresh), (41, .fresh), (42, .fresh), (43, .fresh), (44, .fresh), (46, .fresh), (47, .fresh), (48, .fresh), (49, .fresh), (50, .fresh), (51, .fresh), (52, .fresh), (53, .fresh)]) rfl (by kernel_rfl) fun F38_ => ?_
    dsimp only [List.cons_append, List.nil_append]
    refine SpOp.skip rfl rfl rfl rfl (Sn.ok ?_)
    refine god2 ?_
    refine Sg2.one (td := [(46, .old), (47, .old), (48, .old), (49, .old), (50, .old), (51, .old), (52, .old), (53, .old), (54, .fresh), (55, .fresh)]) rfl (by kernel_rfl) fun F45_ => ?_
    dsimp only [List.cons_append, List.nil_append]
    refine SpOp.skip rfl rfl rfl rfl (Sn.ok ?_)
    refine god2 ?_
    refine go ?_
    exact Dn.ret1 rfl rfl fun w hs => hno e w0 R w (hs.conv (show ents _ (refH p s ++ R) from by exact ent_))
  | false =>
  have g1 := of_decide_eq_false h1
  refine god2 ?_
  cases h2 : decide ((s.gates.length : Int) ≤ n) with
  | true =>
    have e : refAsk s n label privs = false := by unfold refAsk; rw [h1, h2]; rfl
    refine god2 ?_
    refine Sg2.one (td := [(26, .fresh), (27, .fresh), (28, .fresh), (29, .fresh), (30, .fresh), (31, .fresh), (32, .fresh), (33, .fresh), (34, .fresh), (35, .fresh), (36, .fresh), (37, .fresh)]) rfl (by kernel_rfl) fun F25_ => ?_
    dsimp only [List.cons_append, List.nil_append]
    refine SpOp.skip rfl rfl rfl rfl (Sn.ok ?_)
    refine god2 ?_
    refine Sg2.one (td := [(39, .fresh), (40, .fresh), (41, .fresh), (42, .fresh), (43, .fresh), (44, .fresh), (46, .fresh), (47, .fresh), (48, .fresh), (49, .fresh), (50, .fresh), (51, .fresh), (52, .fresh), (53, .fresh)]) rfl (by kernel_rfl) fun F38_ => ?_
    dsimp only [List.cons_append, List.nil_append]
    refine SpOp.skip rfl rfl rfl rfl (Sn.ok ?_)
    refine god2 ?_
    refine Sg2.one (td := [(46, .old), (47, .old), (48, .old), (49, .old), (50, .old), (51, .old), (52, .old), (53, .old), (54, .fresh), (55, .fresh)]) rfl (by kernel_rfl) fun F45_ => ?_
    dsimp only [List.cons_append, List.nil_append]
    refine SpOp.skip rfl rfl rfl rfl (Sn.ok ?_)
    refine god2 ?_
    refine go ?_
    exact Dn.ret1 rfl rfl fun w hs => hno e w0 R w (hs.conv (show ents _ (refH p s ++ R) from by exact ent_))
  | false =>
  have g2 := of_decide_eq_false h2
  refine god2 ?_
  refine Sg2.one (td := [(26, .fresh), (27, .fresh), (28, .fresh), (29, .fresh), (30, .fresh), (31, .fresh), (32, .fresh), (33, .fresh), (34, .fresh), (35, .fresh), (36, .fresh), (37, .fresh)]) rfl (by kernel_rfl) fun F25_ => ?_
  dsimp only [List.cons_append, List.nil_append]
  refine SpOp.eff rfl rfl rfl rfl rfl (Eff.call (R := ?_) (ref2_Flows s.v s.rows s.q hl (by omega) label (rd s.gates n).f_From) rfl ?_ ?_)
  rotate_left
  · exact tkl_
  rintro _ -
  dsimp only [List.cons_append, List.nil_append]
  refine Sn.ok ?_
  cases h3 : flR s.q label (rd s.gates n).f_From with
  | false =>
    have e : refAsk s n label privs = false := by unfold refAsk; rw [h1, h2, h3]; rfl
    refine god2 ?_
    refine Sg2.one (td := [(39, .fresh), (40, .fresh), (41, .fresh), (42, .fresh), (43, .fresh), (44, .fresh), (46, .fresh), (47, .fresh), (48, .fresh), (49, .fresh), (50, .fresh), (51, .fresh), (52, .fresh), (53, .fresh)]) rfl (by kernel_rfl) fun F38_ => ?_
    dsimp only [List.cons_append, List.nil_append]
    refine SpOp.skip rfl rfl rfl rfl (Sn.ok ?_)
    refine god2 ?_
    refine Sg2.one (td := [(46, .old), (47, .old), (48, .old), (49, .old), (50, .old), (51, .old), (52, .old), (53, .old), (54, .fresh), (55, .fresh)]) rfl (by kernel_rfl) fun F45_ => ?_
    dsimp only [List.cons_append, List.nil_append]
    refine SpOp.skip rfl rfl rfl rfl (Sn.ok ?_)
    refine god2 ?_
    refine go ?_
    exact Dn.ret1 rfl rfl fun w hs => hno e w0 R w (hs.conv (show ents _ (refH p s ++ R) from by exact ent_))
  | true =>
  refine god2 ?_
  refine Sg2.one (td := [(39, .fresh), (40, .fresh), (41, .fresh), (42, .fresh), (43, .fresh), (44, .fresh), (46, .fresh), (47, .fresh), (48, .fresh), (49, .fresh), (50, .fresh), (51, .fresh), (52, .fresh), (53, .fresh)]) rfl (by kernel_rfl) fun F38_ => ?_
  dsimp only [List.cons_append, List.nil_append]
  refine SpOp.eff rfl rfl rfl rfl rfl (Eff.call (R := ?_) (ref2_Has privs (rd s.gates n).f_Need) rfl ?_ ?_)
  rotate_left
  · exact tkl_
  rintro _ -
  dsimp only [List.cons_append, List.nil_append]
  refine Sn.ok ?_
  cases h4 : privHas privs (rd s.gates n).f_Need with
  | false =>
    have e : refAsk s n label privs = false := by unfold refAsk; rw [h1, h2, h3, h4]; rfl
    refine god2 ?_
    refine Sg2.one (td := [(46, .old), (47, .old), (48, .old), (49, .old), (50, .old), (51, .old), (52, .old), (53, .old), (54, .fresh), (55, .fresh)]) rfl (by kernel_rfl) fun F45_ => ?_
    dsimp only [List.cons_append, List.nil_append]
    refine SpOp.skip rfl rfl rfl rfl (Sn.ok ?_)
    refine god2 ?_
    refine go ?_
    exact Dn.ret1 rfl rfl fun w hs => hno e w0 R w (hs.conv (show ents _ (refH p s ++ R) from by exact ent_))
  | true =>
  refine god2 ?_
  refine Sg2.one (td := [(46, .old), (47, .old), (48, .old), (49, .old), (50, .old), (51, .old), (52, .old), (53, .old), (54, .fresh), (55, .fresh)]) rfl (by kernel_rfl) fun F45_ => ?_
  dsimp only [List.cons_append, List.nil_append]
  refine SpOp.eff rfl rfl rfl rfl rfl (Eff.call (R := ?_) (ref21_Asked p s n label (by omega)) rfl ?_ ?_)
  rotate_left
  · exact tkl_
  rintro _ -
  dsimp only [List.cons_append, List.nil_append]
  refine Sn.ok ?_
  refine god2 ?_
  refine go ?_
  refine Cd.condP rfl (fun h5 => ?_) (fun h5 => ?_)
  · have e : refAsk s n label privs = false := by unfold refAsk; rw [h1, h2, h3, h4, decide_eq_true h5]; rfl
    refine go ?_
    exact Dn.ret1 rfl rfl fun w hs => hno e w0 R w (hs.conv (show ents _ (refH p s ++ R) from by exact ent_))
  · have e : refAsk s n label privs = true := by unfold refAsk; rw [h1, h2, h3, h4, decide_eq_false h5]; rfl
    refine go ?_
    refine Ol.eff rfl rfl rfl (Eff.x (Qx.buildA rfl) ?_)
    repeat(first|(with_reducible refine Ol.g ?_;first|(refine Ol.q rfl rfl rfl ?_ ?_;(first|exact True.intro|omega|(unfold in64;omega)|(simp only [List.length_append,List.length_cons,List.length_nil,List.length_set];omega)))|with_reducible refine Ol.nil ?_|refine Ol.skip rfl rfl ?_|refine Ol.eff rfl rfl rfl (Eff.x (Qx.build rfl) ?_)|refine Ol.skip0 rfl ?_|(refine Ol.ga ?_;dsimp only [List.append])|refine Ol.eff rfl rfl rfl (Eff.alloc fun _ => ?_)|refine Ol.eff rfl rfl rfl (Eff.box fun _ => ?_)|refine Ol.eff0 rfl rfl (Eff.store rfl rfl ?_)|refine Ol.eff rfl rfl rfl (Eff.bslice rfl rfl fun _ => ?_)|(refine Ol.eff0 rfl rfl (Eff.storeE rfl ?_ ?_);(first|exact True.intro|omega|(unfold in64;omega)|(simp only [List.length_append,List.length_cons,List.length_nil,List.length_set];omega)))|(refine Ol.eff rfl rfl rfl (Eff.append1 rfl ?_ fun _ => ?_);(first|exact True.intro|omega|(unfold in64;omega)|(simp only [List.length_append,List.length_cons,List.length_nil,List.length_set];omega))))|(with_reducible refine Cd.g ?_;first|with_reducible refine Cd.seq ?_|with_reducible refine Cd.region ?_|with_reducible refine Cd.skip ?_|with_reducible refine Cd.ret ?_|with_reducible refine Cd.block ?_|with_reducible refine Cd.exit ?_|(with_reducible refine Cd.condg ?_;first|refine Cd.cond_t rfl ?_|refine Cd.cond_f rfl ?_))|(with_reducible refine Dn.g ?_;first|with_reducible refine Dn.then ?_|with_reducible refine Dn.ret_then ?_|with_reducible refine Dn.ret_block ?_|with_reducible refine Dn.block ?_|with_reducible refine Dn.exit_then ?_|with_reducible refine Dn.exit_at ?_|with_reducible refine Dn.exit_by rfl ?_))
    rename_i av _ wv
    refine Dn.ret1 rfl rfl fun w hs => ⟨refAskS s n label v b av wv, by rw [e], by unfold refAskP; rw [e]; exact ⟨av, wv, rfl⟩, hs.conv (show ents _ (refH p (refAskS s n label v b av wv) ++ R) from by exact ent_)⟩
def refTake (s : RS) (n : Int) : Bool := !(decide (n < 0) || decide ((s.outs.length : Int) ≤ n)) && !decide (((rd s.outs n).length : Int) = 0)
abbrev refTakeS (s : RS) (n : Int) : RS := { s with orow := s.orow.set n.toNat (slcV (rd s.orow n) 1 1), outs := s.outs.set n.toNat ((rd s.outs n).drop 1) }
def refTakeV (s : RS) (n : Int) : Value := match refTake s n with
  | true => .tuple #[.int .i32 (rd (rd s.outs n) 0), .bool true]
  | false => .tuple #[.int .i32 0, .bool false]
def refTakeP (s : RS) (n : Int) (t : RS) : Prop := match refTake s n with
  | true => t = refTakeS s n
  | false => t = s
-- FN (*confidant/confidantref21.Gates).Take
theorem ref21_Take (p : Nat) (s : RS) (n : Int) :
    Sp Try.prog 19 [.pointer (some ⟨p, 0, none⟩), .int .i64 n] (refH p s) (refTakeP s n) (fun _ => refTakeV s n) (fun t => refH p t) := by
  have hno : refTake s n = false → ∀ (w0 : World) (R : List HProp) (w : World), St w0 (refH p s ++ R) w → ∃ x, Value.tuple #[.int .i32 0, .bool false] = refTakeV s n ∧ refTakeP s n x ∧ St w0 (refH p x ++ R) w := fun e w0 R w hs =>
    ⟨s, by unfold refTakeV; rw [e], by unfold refTakeP; rw [e], hs⟩
  refine Sp.intro (n := 53) Try.func19 rfl rfl fun w0 R => ?_
  dsimp only [List.cons_append, List.nil_append, envOf]
  refine go ?_
  refine Ol.know (fun w hw => rws_len (Tk.sat (A := (rws false (eInt .i32) s.orow s.outs)) (by exact tk_) hw)) fun hr => ?_
  cases h1 : decide (n < 0) with
  | true =>
    have e : refTake s n = false := by unfold refTake; rw [h1]; rfl
    refine go ?_
    exact Dn.ret2 rfl rfl rfl fun w hs => hno e w0 R w (hs.conv (show ents _ (refH p s ++ R) from by exact ent_))
  | false =>
  have g1 := of_decide_eq_false h1
  refine go ?_
  cases h2 : decide ((s.orow.length : Int) ≤ n) with
  | true =>
    have e : refTake s n = false := by unfold refTake; rw [h1, ← hr, h2]; rfl
    refine go ?_
    exact Dn.ret2 rfl rfl rfl fun w hs => hno e w0 R w (hs.conv (show ents _ (refH p s ++ R) from by exact ent_))
  | false =>
  have g2 := of_decide_eq_false h2
  refine go ?_
  cases h3 : decide (((rd s.outs n).length : Int) = 0) with
  | true =>
    have e : refTake s n = false := by unfold refTake; rw [h1, ← hr, h2, h3]; rfl
    refine go ?_
    exact Dn.ret2 rfl rfl rfl fun w hs => hno e w0 R w (hs.conv (show ents _ (refH p s ++ R) from by exact ent_))
  | false =>
  have g3 := of_decide_eq_false h3
  have e : refTake s n = true := by unfold refTake; rw [h1, ← hr, h2, h3]; rfl
  have hl : 1 ≤ (rd s.outs n).length := by omega
  refine go ?_
  refine Cd.row (r := false) (E := eInt .i32) (rows := s.orow) (xss := s.outs) n (by exact tk_) ⟨by omega, by omega⟩ ?_
  refine Cd.know (fun w hw => one_slc (Tk.sat (A := (slB false (eInt .i32) (rd s.orow n) (rd s.outs n))) (by exact tk_) hw)) fun o1 => ?_
  have o2 := o1 1 1
  refine go ?_
  refine Cd.draw2 [[], [0], [0, 1], [0, 1, 2], [], [], [5], [5, 6], [5, 6, 7], [], [5, 6, 7, 8, 9], [5, 6, 7, 8, 9, 10], [5, 6, 7, 8, 9, 10, 11], [0, 1, 2, 3, 4, 5, 6, 7, 8, 9, 10, 11, 12], [0, 1, 2, 3, 4, 5, 6, 7, 8, 9, 10, 11, 12, 13]] [14] [] (td := [(0, .fresh), (1, .fresh), (2, .fresh), (3, .fresh), (4, .fresh), (5, .fresh), (6, .fresh), (7, .fresh), (8, .fresh), (9, .fresh), (10, .fresh), (11, .fresh), (12, .fresh), (13, .fresh)]) mixed (by kernel_rfl) (by kernel_rfl) (by decide) (by decide) rfl (by kernel_rfl) ?_
  refine god2 ?_
  refine Sg2.one (td := []) rfl (by kernel_rfl) fun F14_ => ?_
  dsimp only [List.cons_append, List.nil_append]
  refine SpOp.eff0 rfl rfl rfl rfl (Eff.storeE rfl ?_ ?_)
  · omega
  refine Sn.ok ?_
  refine god2 ?_
  refine go ?_
  rw [show Int.toNat 1 = 1 from rfl]
  refine Dn.ret2 rfl rfl rfl fun w hs => ⟨refTakeS s n, by unfold refTakeV; rw [e], by unfold refTakeP; rw [e], hs.conv (ents.trans (show ents _ (slB false (eInt .i32) (slcV (rd s.orow n) 1 1) ((rd s.outs n).drop 1) :: _) from ents.slc (r := false) (E := eInt .i32) (v := rd s.orow n) (xs := rd s.outs n) (l := 1) (by exact tk_) (by omega) (ents.refl _)) (show ents _ (refH p (refTakeS s n) ++ R) from by exact ent_))⟩
-- FN (*confidant/confidantref21.Gates).To
theorem ref21_To (p : Nat) (s : RS) (n : Int) :
    Sp Try.prog 21 [.pointer (some ⟨p, 0, none⟩), .int .i64 n] (refH p s) (fun _ : Unit => True) (fun _ => if 0 ≤ n ∧ n < (s.gates.length : Int) then .tuple #[.int .i64 (rd s.gates n).f_To, .bool true] else .tuple #[.int .i64 0, .bool false]) (fun _ => refH p s) := by
  refine Sp.intro (n := 25) Try.func21 rfl rfl fun w0 R => ?_
  dsimp only [List.cons_append, List.nil_append, envOf]
  refine go ?_
  cases h1 : decide (n < 0) with
  | true =>
    have g1 := of_decide_eq_true h1
    refine go ?_
    refine Dn.ret2 rfl rfl rfl fun w hs => ⟨(), ?_, trivial, hs⟩
    rw [if_neg (by omega)]
  | false =>
  have g1 := of_decide_eq_false h1
  refine go ?_
  refine Cd.condP rfl (fun h2 => ?_) (fun h2 => ?_)
  · refine go ?_
    refine Dn.ret2 rfl rfl rfl fun w hs => ⟨(), ?_, trivial, hs⟩
    rw [if_neg (by omega)]
  · refine go ?_
    refine Dn.ret2 rfl rfl rfl fun w hs => ⟨(), ?_, trivial, hs⟩
    rw [if_pos (by omega)]
-- FN confidant/confidantref21.SameAudit
theorem ref21_SameAudit (r r2 : Bool) (u v : Value) (xs ys : List S_api_Record) (hx : xs.length ≤ 1000000) (hy : ys.length ≤ 1000000) :
    Sp Try.prog 15 [u, v] [slB r e_api_Record u xs, slB r2 e_api_Record v ys] (fun _ : Unit => True) (fun _ => .bool (decide (xs = ys))) (fun _ => [slB r e_api_Record u xs, slB r2 e_api_Record v ys]) := by
  refine Sp.intro (n := 26) Try.func15 rfl rfl fun w0 R => ?_
  dsimp only [List.cons_append, List.nil_append, envOf]
  refine go ?_
  refine Cd.condP rfl (fun h => ?_) (fun h => ?_)
  · refine go ?_
    refine Dn.ret1 rfl rfl fun w hs => ⟨(), ?_, by trivial, by first | exact hs | (refine hs.conv ?_; exact ent_)⟩
    rw [decide_eq_false fun e => by subst e; exact h rfl]
  have hl : xs.length = ys.length := by omega
  refine go ?_
  refine Cd.loop (fun k : Nat => k ≤ xs.length ∧ xs.take k = ys.take k) (fun k => xs.length - k) (fun k => [(0, u), (1, v), (5, .int .i64 k)]) (fun _ => _) 0 ⟨by omega, by simp⟩ ?_ (ents.refl _) fun k ⟨hk, he⟩ => ?_
  · repeat(first|exact Env.le_nil _|(refine Env.le_cons rfl ?_ ?_;first|rfl|(simp;done)|exact congrArg _ (by omega)|rotate_left))
  refine go ?_
  refine Cd.condP rfl (fun h => ?_) (fun h => ?_)
  · have hk' : k < xs.length := by omega
    refine go ?_
    refine Cd.draw2 [[], [], [0, 1], [0, 1, 2], [], [], [4, 5], [4, 5, 6], [0, 1, 2, 3, 4, 5, 6, 7]] [] [] (td := [(0, .fresh), (1, .fresh), (2, .fresh), (3, .fresh), (4, .fresh), (5, .fresh), (6, .fresh), (7, .fresh), (8, .fresh)]) mixed (by kernel_rfl) (by kernel_rfl) (by decide) (by decide) rfl (by kernel_rfl) ?_
    refine god2 ?_
    refine go ?_
    refine Cd.condP rfl (fun h2 => ?_) (fun h2 => ?_)
    · refine go ?_
      refine Dn.ret1 rfl rfl fun w hs => ⟨(), ?_, by trivial, by first | exact hs | (refine hs.conv ?_; exact ent_)⟩
      rw [decide_eq_false fun e => by subst e; exact h2 rfl]
    · refine go ?_
      refine Dn.round (k + 1) ⟨by omega, ?_⟩ (by omega) ?_ (ents.refl _)
      · have h3 : rd xs (k : Int) = rd ys (k : Int) := Decidable.of_not_not h2
        rw [take_rd hk', take_rd (by omega), he, h3]
      · repeat(first|exact Env.le_nil _|(refine Env.le_cons rfl ?_ ?_;first|rfl|(simp;done)|exact congrArg _ (by omega)|rotate_left))
  · have hke : k = xs.length := by omega
    subst hke
    refine go ?_
    refine Dn.ret1 rfl rfl fun w hs => ⟨(), ?_, by trivial, by first | exact hs | (refine hs.conv ?_; exact ent_)⟩
    rw [List.take_length] at he
    rw [decide_eq_true (by rw [he, hl, List.take_length])]
end Go.Proofs.Ytefmjphokgnobaa

