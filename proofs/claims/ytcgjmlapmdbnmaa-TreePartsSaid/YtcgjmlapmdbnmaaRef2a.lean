/- Contracts of functions of the program, proved in a small separation logic. Conditions: those that each theorem states. -/
import Derived.Test.YtcgjmlapmdbnmaaLattice2
namespace Go.Proofs.Ytcgjmlapmdbnmaa
open Go Go.Sl
set_option maxHeartbeats 4000000
set_option maxRecDepth 100000
set_option linter.unusedVariables false
-- FN confidant/confidantref2.Square
theorem ref2_Square (v : Value) (rows : List Value) (q : List (List Bool)) (hl : rows.length = q.length) (hm : q.length ≤ 140737488355328) :
    Sp Try.prog 137 [v] [rsl eVal v rows, rws true eBool rows q] (fun _ : Unit => True) (fun _ => .bool (sqB q)) (fun _ => []) := by
  refine Sp.intro (n := 26) Try.func137 rfl rfl fun w0 R => ?_
  dsimp only [List.cons_append, List.nil_append, envOf]
  refine go ?_
  cases h1 : (decide ((rows.length : Int) < 1)) with
  | true =>
    refine go ?_
    refine Dn.ret1 rfl rfl fun w hs => ⟨(), ?_, by trivial, by first | exact hs | (refine hs.conv ?_; exact ent_)⟩
    have h2 := of_decide_eq_true h1
    have : decide (1 ≤ q.length) = false := decide_eq_false (by omega)
    unfold sqB; rw [this]; simp
  | false =>
  refine go ?_
  have g1 := of_decide_eq_false h1
  refine Cd.condP rfl (fun h => ?_) (fun h => ?_)
  · refine go ?_
    refine Dn.ret1 rfl rfl fun w hs => ⟨(), ?_, by trivial, by first | exact hs | (refine hs.conv ?_; exact ent_)⟩
    have : decide (q.length ≤ 16) = false := decide_eq_false (by omega)
    unfold sqB; rw [this]; simp
  refine go ?_
  refine Cd.loop (fun k : Nat => k ≤ q.length ∧ (q.take k).all (fun row => row.length == q.length) = true) (fun k => q.length - k) (fun k => [(0, v), (3, .int .i64 k)]) (fun _ => _) 0 ⟨by omega, by simp⟩ ?_ (ents.refl _) fun k ⟨hk, hq⟩ => ?_
  · repeat(first|exact Env.le_nil _|(refine Env.le_cons rfl ?_ ?_;first|rfl|(simp;done)|exact congrArg _ (by omega)|rotate_left))
  refine go ?_
  refine Cd.condP rfl (fun h => ?_) (fun h => ?_)
  · have hk' : k < q.length := by omega
    refine go ?_
    refine Cd.condP rfl (fun h2 => ?_) (fun h2 => ?_)
    · refine go ?_
      refine Dn.ret1 rfl rfl fun w hs => ⟨(), ?_, by trivial, by first | exact hs | (refine hs.conv ?_; exact ent_)⟩
      have : sqB q = false := by
        unfold sqB
        rw [Bool.and_eq_false_iff]; left
        rw [List.all_eq_false]
        refine ⟨q[k], List.getElem_mem hk', ?_⟩
        rw [rd_eq (by simpa using hk')] at h2
        simp at h2 ⊢; omega
      rw [this]
    · refine go ?_
      refine Dn.round (k + 1) ⟨by omega, ?_⟩ (by omega) ?_ (ents.refl _)
      · rw [List.take_succ_eq_append_getElem hk', List.all_append, hq]
        rw [rd_eq (by simpa using hk')] at h2
        simp at h2 ⊢; omega
      · repeat(first|exact Env.le_nil _|(refine Env.le_cons rfl ?_ ?_;first|rfl|(simp;done)|exact congrArg _ (by omega)|rotate_left))
  · refine go ?_
    refine Dn.ret1 rfl rfl fun w hs => ⟨(), ?_, by trivial, by first | exact hs | (refine hs.conv ?_; exact ent_)⟩
    have hkl : k = q.length := by omega
    rw [hkl, List.take_length] at hq
    have e1 : decide (1 ≤ q.length) = true := decide_eq_true (by omega)
    have e2 : decide (q.length ≤ 16) = true := decide_eq_true (by omega)
    unfold sqB; rw [hq, e1, e2]; rfl
def inR (q : List (List Bool)) (a : Int) : Bool := sqB q && (decide (0 ≤ a) && decide (a < (q.length : Int)))
theorem inR_iff {q : List (List Bool)} {a : Int} (h : inR q a = true) : sqB q = true ∧ 0 ≤ a ∧ a < q.length := by
  unfold inR at h; simp at h; exact h
theorem inR_of {q : List (List Bool)} {a : Int} (hq : sqB q = true) (h : 0 ≤ a ∧ a < q.length) : inR q a = true := by
  unfold inR; simp [hq, h]
-- FN confidant/confidantref2.in
theorem ref2_in (v : Value) (rows : List Value) (q : List (List Bool)) (hl : rows.length = q.length) (hm : q.length ≤ 140737488355328) (a : Int) :
    Sp Try.prog 116 [v, .int .i64 a] [rsl eVal v rows, rws true eBool rows q] (fun _ : Unit => True) (fun _ => .bool (inR q a)) (fun _ => []) := by
  refine Sp.intro (n := 17) Try.func116 rfl rfl fun w0 R => ?_
  dsimp only [List.cons_append, List.nil_append, envOf]
  refine go ?_
  with_reducible refine Ol.g ?_
  refine Ol.eff rfl rfl rfl (Eff.call (R := ?_) (ref2_Square v rows q hl hm) rfl ?_ ?_)
  rotate_left
  · exact tkl_
  rintro _ -
  dsimp only [List.cons_append, List.nil_append]
  cases h1 : (sqB q) with
  | false =>
    refine go ?_
    refine Dn.ret1 rfl rfl fun w hs => ⟨(), ?_, by trivial, by first | exact hs | (refine hs.conv ?_; exact ent_)⟩
    simp [inR, h1]
  | true =>
  refine go ?_
  cases h2 : (decide (0 ≤ a)) with
  | false =>
    refine go ?_
    refine Dn.ret1 rfl rfl fun w hs => ⟨(), ?_, by trivial, by first | exact hs | (refine hs.conv ?_; exact ent_)⟩
    simp only [inR, h1, h2]; rfl
  | true =>
  refine go ?_
  refine Dn.ret1 rfl rfl fun w hs => ⟨(), ?_, by trivial, by first | exact hs | (refine hs.conv ?_; exact ent_)⟩
  simp only [inR, h1, h2, hl]; rfl
def flR (q : List (List Bool)) (a b : Int) : Bool := inR q a && (inR q b && rd (rd q a) b)
def allR (q : List (List Bool)) (l : List Int) : Bool := l.all (inR q) && decide (0 < l.length)
-- FN confidant/confidantref2.all
theorem ref2_all (v : Value) (rows : List Value) (q : List (List Bool)) (hl : rows.length = q.length) (hm : q.length ≤ 140737488355328) (r : Bool) (lv : Value) (l : List Int) (hll : l.length ≤ 140737488355328) :
    Sp Try.prog 115 [v, lv] [slB r (eInt .i64) lv l, rsl eVal v rows, rws true eBool rows q] (fun _ : Unit => True) (fun _ => .bool (allR q l)) (fun _ => [slB r (eInt .i64) lv l]) := by
  refine Sp.intro (n := 22) Try.func115 rfl rfl fun w0 R => ?_
  dsimp only [List.cons_append, List.nil_append, envOf]
  refine go ?_
  refine Cd.loop (fun k : Nat => k ≤ l.length ∧ (l.take k).all (inR q) = true) (fun k => l.length - k) (fun k => [(0, v), (1, lv), (5, .int .i64 k)]) (fun _ => _) 0 ⟨by omega, by simp⟩ ?_ (ents.refl _) fun k ⟨hk, hq⟩ => ?_
  · repeat(first|exact Env.le_nil _|(refine Env.le_cons rfl ?_ ?_;first|rfl|(simp;done)|exact congrArg _ (by omega)|rotate_left))
  refine go ?_
  refine Cd.condP rfl (fun h => ?_) (fun h => ?_)
  · have hk' : k < l.length := by omega
    refine go ?_
    with_reducible refine Ol.g ?_
    refine Ol.eff rfl rfl rfl (Eff.call (R := ?_) (ref2_in v rows q hl hm (rd l k)) rfl ?_ ?_)
    rotate_left
    · exact tkl_
    rintro _ -
    dsimp only [List.cons_append, List.nil_append]
    have et := take_rd hk'
    cases h1 : (inR q (rd l k)) with
    | false =>
      refine go ?_
      refine Dn.ret1 rfl rfl fun w hs => ⟨(), ?_, by trivial, by first | exact hs | (refine hs.conv ?_; exact ent_)⟩
      have : l.all (inR q) = false := List.all_eq_false.2 ⟨_, rd_mem (xs := l) (i := (k : Int)) (by omega) (by omega), by simp [h1]⟩
      simp [allR, this]
    | true =>
    refine go ?_
    refine Dn.round (k + 1) ⟨by omega, ?_⟩ (by omega) ?_ ?_
    · rw [et, List.all_append, hq]; simp [h1]
    · repeat(first|exact Env.le_nil _|(refine Env.le_cons rfl ?_ ?_;first|rfl|(simp;done)|exact congrArg _ (by omega)|rotate_left))
    · exact ent_
  · refine go ?_
    refine Dn.ret1 rfl rfl fun w hs => ⟨(), ?_, by trivial, by first | exact hs | (refine hs.conv ?_; exact ent_)⟩
    have hkl : k = l.length := by omega
    rw [hkl, List.take_length] at hq
    simp only [allR, hq, Bool.true_and]
    exact congrArg _ (decide_eq_decide.2 (by omega))
end Go.Proofs.Ytcgjmlapmdbnmaa

