/- Contracts of functions of the program, proved in a small separation logic. Conditions: those that each theorem states. -/
import Derived.Test.YtefmjphokgnobaaGate3
namespace Go.Proofs.Ytefmjphokgnobaa
open Go Go.Sl
set_option maxHeartbeats 4000000
set_option maxRecDepth 100000
set_option linter.unusedVariables false
theorem one_slc {r : Bool} {T : Type} {E : Enc T} {v : Value} {xs : List T} {w : World} (h : sat w (slB r E v xs)) : ∀ l n, One (slcV v l n) := fun l n => by
  obtain ⟨a, l', c, rfl, _⟩ := (slB_in h).slice
  exact ⟨rfl⟩
def takeOk (s : GS) (n : Int) : Bool := decide (0 ≤ n ∧ n < (s.gates.length : Int)) && !decide (((rd s.outs n).length : Int) = 0)
abbrev takeS (s : GS) (n : Int) : GS := { s with orow := s.orow.set n.toNat (slcV (rd s.orow n) 1 1), outs := s.outs.set n.toNat ((rd s.outs n).drop 1) }
def takeV (s : GS) (n : Int) : Value := match takeOk s n with
  | true => .tuple #[.int .i32 (rd (rd s.outs n) 0), .bool true]
  | false => .tuple #[.int .i32 0, .bool false]
def takeP (s : GS) (n : Int) (t : GS) : Prop := match takeOk s n with
  | true => t = takeS s n
  | false => t = s
-- FN (*confidant/gate.Gates).Take
theorem gate_Take (p : Nat) (s : GS) (ho : s.outs.length = s.gates.length) (n : Int) :
    Sp Try.prog 18 [.pointer (some ⟨p, 0, none⟩), .int .i64 n] (gateH p s) (takeP s n) (fun _ => takeV s n) (fun t => gateH p t) := by
  refine Sp.intro (n := 46) Try.func18 rfl rfl fun w0 R => ?_
  dsimp only [List.cons_append, List.nil_append, envOf]
  refine go ?_
  refine Ol.know (fun w hw => rws_len (Tk.sat (A := (rws false (eInt .i32) s.orow s.outs)) (by exact tk_) hw)) fun hr => ?_
  refine Ol.eff rfl rfl rfl (Eff.call (R := ?_) (gate_has p s.fl s.gs s.wv s.ov s.am s.sm s.gates n) rfl ?_ ?_)
  rotate_left
  · exact tkl_
  rintro _ -
  dsimp only [List.cons_append, List.nil_append]
  cases h1 : decide (0 ≤ n ∧ n < (s.gates.length : Int)) with
  | false =>
    refine go ?_
    have e : takeOk s n = false := by unfold takeOk; rw [h1]; rfl
    refine Dn.ret2 rfl rfl rfl fun w hs => ⟨s, by unfold takeV; rw [e], by unfold takeP; rw [e], hs.conv (show ents _ (gateH p s ++ R) from by exact ent_)⟩
  | true =>
  have hn := of_decide_eq_true h1
  refine go ?_
  refine Cd.cond rfl (fun h4 => ?_) (fun h4 => ?_)
  · refine go ?_
    have e : takeOk s n = false := by unfold takeOk; rw [h1, show decide (((rd s.outs n).length : Int) = 0) = true from h4]; rfl
    refine Dn.ret2 rfl rfl rfl fun w hs => ⟨s, by unfold takeV; rw [e], by unfold takeP; rw [e], hs.conv (show ents _ (gateH p s ++ R) from by exact ent_)⟩
  have e : takeOk s n = true := by unfold takeOk; rw [h1, show decide (((rd s.outs n).length : Int) = 0) = false from h4]; rfl
  have hl : 1 ≤ (rd s.outs n).length := by have := of_decide_eq_false h4; omega
  refine Cd.row (r := false) (E := eInt .i32) (rows := s.orow) (xss := s.outs) n (by exact tk_) ⟨hn.1, by omega⟩ ?_
  refine Cd.know (fun w hw => one_slc (Tk.sat (A := (slB false (eInt .i32) (rd s.orow n) (rd s.outs n))) (by exact tk_) hw)) fun o1 => ?_
  have o2 := o1 1 1
  refine go ?_
  refine Cd.draw2 [[], [0], [0, 1], [0, 1, 2], [], [], [5], [5, 6], [5, 6, 7], [], [5, 6, 7, 8, 9], [5, 6, 7, 8, 9, 10], [5, 6, 7, 8, 9, 10, 11], [0, 1, 2, 3, 4, 5, 6, 7, 8, 9, 10, 11, 12], [0, 1, 2, 3, 4, 5, 6, 7, 8, 9, 10, 11, 12, 13]] [14] [] (td := [(0, .fresh), (1, .fresh), (2, .fresh), (3, .fresh), (4, .fresh), (5, .fresh), (6, .fresh), (7, .fresh), (8, .fresh), (9, .fresh), (10, .fresh), (11, .fresh), (12, .fresh), (13, .fresh)]) mixed (by kernel_rfl) (by kernel_rfl) (by decide) (by decide) rfl (by kernel_rfl) ?_
  refine god2 ?_
  refine Sg2.one (td := []) rfl (by kernel_rfl) fun F14_ => ?_
  dsimp only [List.cons_append, List.nil_append]
  refine SpOp.eff0 rfl rfl rfl rfl (Eff.storeE rfl ?_ ?_)
  · omega
  refine Sn.ok ?_
  refine god2 ?_
  refine go ?_
  rw [show Int.toNat 1 = 1 from rfl]
  refine Dn.ret2 rfl rfl rfl fun w hs => ⟨takeS s n, by unfold takeV; rw [e], by unfold takeP; rw [e], hs.conv (ents.trans (show ents _ (slB false (eInt .i32) (slcV (rd s.orow n) 1 1) ((rd s.outs n).drop 1) :: _) from ents.slc (r := false) (E := eInt .i32) (v := rd s.orow n) (xs := rd s.outs n) (l := 1) (by exact tk_) (by omega) (ents.refl _)) (show ents _ (gateH p (takeS s n) ++ R) from by exact ent_))⟩
end Go.Proofs.Ytefmjphokgnobaa

