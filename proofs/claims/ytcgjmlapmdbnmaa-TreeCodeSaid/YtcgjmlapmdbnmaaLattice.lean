/- Contracts of functions of the program, proved in a small separation logic. Conditions: those that each theorem states. -/
import Derived.Test.YtcgjmlapmdbnmaaOrder2
namespace Go.Proofs.Ytcgjmlapmdbnmaa
open Go Go.Sl
set_option maxHeartbeats 4000000
set_option maxRecDepth 100000
set_option linter.unusedVariables false
abbrev itab (v : Value) (rows : List Value) (t : List (List Int)) : List HProp := [rsl eVal v rows, rws true (eInt .i64) rows t]
def atB (t : List (List Int)) (a b d : Int) : Int := if (0 ≤ a ∧ a < (t.length : Int)) ∧ 0 ≤ b ∧ b < (t.length : Int) then rd (rd t a) b else d
def sqI (t : List (List Int)) : Prop := ∀ a : Int, 0 ≤ a → a < t.length → (rd t a).length = t.length
-- FN confidant/lattice.at
theorem lattice_at (v : Value) (rows : List Value) (t : List (List Int)) (hl : rows.length = t.length) (hsq : sqI t) (a b d : Int) :
    Sp Try.prog 93 [v, .int .i64 a, .int .i64 b, .int .i64 d] [rsl eVal v rows, rws true (eInt .i64) rows t] (fun _ : Unit => True) (fun _ => .int .i64 (atB t a b d)) (fun _ => []) := by
  refine Sp.intro (n := 35) Try.func93 rfl rfl fun w0 R => ?_
  dsimp only [List.cons_append, List.nil_append, envOf]
  refine go ?_
  by_cases h0 : a < 0
  · rw [decide_eq_true h0]
    refine go ?_
    refine Dn.ret1 rfl rfl fun w hs => ⟨(), ?_, by trivial, by first | exact hs | (refine hs.conv ?_; exact ent_)⟩
    unfold atB; rw [if_neg (by omega)]
  rw [decide_eq_false h0]
  refine go ?_
  by_cases h1 : b < 0
  · rw [decide_eq_true h1]
    refine go ?_
    refine Dn.ret1 rfl rfl fun w hs => ⟨(), ?_, by trivial, by first | exact hs | (refine hs.conv ?_; exact ent_)⟩
    unfold atB; rw [if_neg (by omega)]
  rw [decide_eq_false h1]
  refine go ?_
  by_cases h2 : (rows.length : Int) ≤ a
  · rw [decide_eq_true h2]
    refine go ?_
    refine Dn.ret1 rfl rfl fun w hs => ⟨(), ?_, by trivial, by first | exact hs | (refine hs.conv ?_; exact ent_)⟩
    unfold atB; rw [if_neg (by omega)]
  rw [decide_eq_false h2]
  refine go ?_
  have ha := hsq a (by omega) (by omega)
  refine Cd.condP rfl (fun h3 => ?_) (fun h3 => ?_)
  · refine go ?_
    refine Dn.ret1 rfl rfl fun w hs => ⟨(), ?_, by trivial, by first | exact hs | (refine hs.conv ?_; exact ent_)⟩
    unfold atB; rw [if_neg (by omega)]
  · refine go ?_
    refine Dn.ret1 rfl rfl fun w hs => ⟨(), ?_, by trivial, by first | exact hs | (refine hs.conv ?_; exact ent_)⟩
    unfold atB; rw [if_pos (by omega)]
/-- A lattice's memory. -/
structure LatV where
  v1 : Value
  v2 : Value
  v3 : Value
  r1 : List Value
  r2 : List Value
  r3 : List Value
  leq : List (List Int)
  join : List (List Int)
  meet : List (List Int)
  top : Int
  bot : Int
structure LatV.ok (V : LatV) : Prop where
  l1 : V.r1.length = V.leq.length
  l2 : V.r2.length = V.join.length
  l3 : V.r3.length = V.meet.length
  s1 : sqI V.leq
  s2 : sqI V.join
  s3 : sqI V.meet
abbrev latB (r : Bool) (p : Nat) (V : LatV) : List HProp := [celB r p 95 [V.v1, V.v2, V.v3, .int .i64 V.top, .int .i64 V.bot], rsl eVal V.v1 V.r1, rws true (eInt .i64) V.r1 V.leq, rsl eVal V.v2 V.r2, rws true (eInt .i64) V.r2 V.join, rsl eVal V.v3 V.r3, rws true (eInt .i64) V.r3 V.meet]
abbrev lat (p : Nat) (V : LatV) : HProp := stars (latB true p V)
-- FN (*confidant/lattice.Lattice).Join
theorem lattice_JoinB (r : Bool) (p : Nat) (V : LatV) (ok : V.ok) (a b : Int) :
    Sp Try.prog 52 [.pointer (some ⟨p, 0, none⟩), .int .i64 a, .int .i64 b] (latB r p V) (fun _ : Unit => True) (fun _ => .int .i64 (atB V.join a b (-1))) (fun _ => [celB r p 95 [V.v1, V.v2, V.v3, .int .i64 V.top, .int .i64 V.bot]]) := by
  refine Sp.intro (n := 14) Try.func52 rfl rfl fun w0 R => ?_
  dsimp only [List.cons_append, List.nil_append, envOf]
  refine go ?_
  with_reducible refine Ol.g ?_
  refine Ol.eff rfl rfl rfl (Eff.call (R := ?_) (lattice_at V.v2 V.r2 V.join ok.l2 ok.s2 a b (-1)) rfl ?_ ?_)
  rotate_left
  · exact tkl_
  rintro _ -
  dsimp only [List.cons_append, List.nil_append]
  refine go ?_
  refine Dn.ret1 rfl rfl fun w hs => ⟨(), ?_, by trivial, by first | exact hs | (refine hs.conv ?_; exact ent_)⟩
  rfl
-- FN (*confidant/lattice.Lattice).Meet
theorem lattice_MeetB (r : Bool) (p : Nat) (V : LatV) (ok : V.ok) (a b : Int) :
    Sp Try.prog 53 [.pointer (some ⟨p, 0, none⟩), .int .i64 a, .int .i64 b] (latB r p V) (fun _ : Unit => True) (fun _ => .int .i64 (atB V.meet a b (-1))) (fun _ => [celB r p 95 [V.v1, V.v2, V.v3, .int .i64 V.top, .int .i64 V.bot]]) := by
  refine Sp.intro (n := 14) Try.func53 rfl rfl fun w0 R => ?_
  dsimp only [List.cons_append, List.nil_append, envOf]
  refine go ?_
  with_reducible refine Ol.g ?_
  refine Ol.eff rfl rfl rfl (Eff.call (R := ?_) (lattice_at V.v3 V.r3 V.meet ok.l3 ok.s3 a b (-1)) rfl ?_ ?_)
  rotate_left
  · exact tkl_
  rintro _ -
  dsimp only [List.cons_append, List.nil_append]
  refine go ?_
  refine Dn.ret1 rfl rfl fun w hs => ⟨(), ?_, by trivial, by first | exact hs | (refine hs.conv ?_; exact ent_)⟩
  rfl
def flowsB (V : LatV) (a b : Int) : Bool := decide (atB V.leq a b 0 = 1)
end Go.Proofs.Ytcgjmlapmdbnmaa

