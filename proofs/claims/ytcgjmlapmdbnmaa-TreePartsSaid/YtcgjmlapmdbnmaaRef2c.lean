/- Contracts of functions of the program, proved in a small separation logic. Conditions: those that each theorem states. -/
import Derived.Test.YtcgjmlapmdbnmaaRef2b
import Derived.Test.YtcgjmlapmdbnmaaLattice4
namespace Go.Proofs.Ytcgjmlapmdbnmaa
open Go Go.Sl
set_option maxHeartbeats 4000000
set_option maxRecDepth 100000
set_option linter.unusedVariables false
def andLe (a b : Int) : Bool := decide (andI .i64 a b = a)
-- FN confidant/confidantref2.Powers
theorem ref2_Powers (n : Int) (N : Nat) (h0 : 0 ≤ n ∧ n ≤ 4) (hN : shlI .i64 1 n = N) (hb : N ≤ 16) :
    Sp Try.prog 43 [.int .i64 n] [] (fun _ : Value × List Value => True) (fun x => x.1) (fun x => [sl eVal x.1 x.2, rws false eBool x.2 (tabT N N andLe)]) := by
  have e1 : decide (n < 0) = false := decide_eq_false (by omega)
  have e2 : decide (4 < n) = false := decide_eq_false (by omega)
  refine Sp.intro (n := 38) Try.func43 rfl rfl fun w0 R => ?_
  dsimp only [List.cons_append, List.nil_append, envOf]
  refine go ?_
  rw [e1]
  refine go ?_
  rw [e2]
  refine go ?_
  refine Cd.loop (fun s : Nat × Value × List Value => s.1 ≤ N ∧ s.2.2.length = s.1) (fun s => N - s.1) (fun s => [(0, .int .i64 n), (3, s.2.1), (4, .int .i64 s.1)]) (fun s => sl eVal s.2.1 s.2.2 :: rws false eBool s.2.2 (tabT N s.1 andLe) :: R) ⟨0, .slice none 0 0, []⟩ ⟨by simp, rfl⟩ ?_ ?_ ?_
  · repeat(first|exact Env.le_nil _|(refine Env.le_cons rfl ?_ ?_;first|rfl|(simp;done)|exact congrArg _ (by omega)|rotate_left))
  · dsimp only
    rw [show tabT N 0 andLe = [] from rfl]
    exact ent_
  rintro ⟨k, u, rows⟩ ⟨hk, hrl⟩
  dsimp only at hk hrl ⊢
  refine go ?_
  refine Cd.condP rfl (fun h => ?_) (fun h => ?_)
  · have hk' : k < N := by omega
    refine go ?_
    refine Cd.loop (fun s : Nat × Value => s.1 ≤ N) (fun s => N - s.1) (fun s => [(0, .int .i64 n), (3, u), (4, .int .i64 k), (5, s.2), (6, .int .i64 s.1)]) (fun s => sl eBool s.2 (rowT s.1 andLe k) :: sl eVal u rows :: rws false eBool rows (tabT N k andLe) :: R) ⟨0, .slice none 0 0⟩ (by simp) ?_ ?_ ?_
    · repeat(first|exact Env.le_nil _|(refine Env.le_cons rfl ?_ ?_;first|rfl|(simp;done)|exact congrArg _ (by omega)|rotate_left))
    · dsimp only
      rw [show rowT 0 andLe k = [] from rfl]
      exact ent_
    rintro ⟨j, w⟩ hj
    dsimp only at hj ⊢
    have hjl := rowT_length j andLe k
    refine go ?_
    refine Cd.condP rfl (fun h2 => ?_) (fun h2 => ?_)
    · refine go ?_;repeat((with_reducible refine Ol.g ?_);(first|refine Ol.eff rfl rfl rfl (Eff.alloc fun _=>?_)|refine Ol.eff rfl rfl rfl (Eff.box fun _=>?_)|refine Ol.eff0 rfl rfl (Eff.store rfl rfl ?_)|refine Ol.eff rfl rfl rfl (Eff.bslice rfl rfl fun _=>?_)|(refine Ol.eff0 rfl rfl (Eff.storeE rfl ?_ ?_);exact pre_)|(refine Ol.eff rfl rfl rfl (Eff.append1 rfl ?_ fun _=>?_);exact pre_));refine go ?_)
      rename_i w'
      refine Dn.round ⟨j + 1, w'⟩ (by dsimp only; omega) (by dsimp only; omega) ?_ ?_
      · repeat(first|exact Env.le_nil _|(refine Env.le_cons rfl ?_ ?_;first|rfl|(simp;done)|exact congrArg _ (by omega)|rotate_left))
      · dsimp only
        rw [rowT_succ, show andLe (k : Int) (j : Int) = decide (andI .i64 (k : Int) (j : Int) = (k : Int)) from rfl]
        exact ent_
    · have hje : j = N := by omega
      subst hje
      refine go ?_;repeat((with_reducible refine Ol.g ?_);(first|refine Ol.eff rfl rfl rfl (Eff.alloc fun _=>?_)|refine Ol.eff rfl rfl rfl (Eff.box fun _=>?_)|refine Ol.eff0 rfl rfl (Eff.store rfl rfl ?_)|refine Ol.eff rfl rfl rfl (Eff.bslice rfl rfl fun _=>?_)|(refine Ol.eff0 rfl rfl (Eff.storeE rfl ?_ ?_);exact pre_)|(refine Ol.eff rfl rfl rfl (Eff.append1 rfl ?_ fun _=>?_);exact pre_));refine go ?_)
      rename_i u'
      refine Dn.round ⟨k + 1, u', rows ++ [w]⟩ ⟨by dsimp only; omega, by simp [hrl]⟩ (by dsimp only; omega) ?_ ?_
      · repeat(first|exact Env.le_nil _|(refine Env.le_cons rfl ?_ ?_;first|rfl|(simp;done)|exact congrArg _ (by omega)|rotate_left))
      · dsimp only
        rw [tabT_succ]
        exact ent_
  · have hke : k = N := by omega
    subst hke
    refine go ?_
    refine Dn.ret1 rfl rfl fun w hs => ⟨(u, rows), rfl, trivial, hs⟩
-- FN confidant/confidantref2.Chain
theorem ref2_Chain (N : Nat) (h0 : 1 ≤ N ∧ N ≤ 16) :
    Sp Try.prog 30 [.int .i64 N] [] (fun _ : Value × List Value => True) (fun x => x.1) (fun x => [sl eVal x.1 x.2, rws false eBool x.2 (tabT N N leI)]) := by
  have hn : ∃ n : Int, n = N := ⟨_, rfl⟩
  obtain ⟨n, hn⟩ := hn
  rw [← hn]
  have e1 : decide (n < 1) = false := decide_eq_false (by omega)
  have e2 : decide (16 < n) = false := decide_eq_false (by omega)
  refine Sp.intro (n := 34) Try.func30 rfl rfl fun w0 R => ?_
  dsimp only [List.cons_append, List.nil_append, envOf]
  refine go ?_
  rw [e1]
  refine go ?_
  rw [e2]
  refine go ?_
  refine Cd.loop (fun s : Nat × Value × List Value => s.1 ≤ N ∧ s.2.2.length = s.1) (fun s => N - s.1) (fun s => [(0, .int .i64 n), (3, s.2.1), (4, .int .i64 s.1)]) (fun s => sl eVal s.2.1 s.2.2 :: rws false eBool s.2.2 (tabT N s.1 leI) :: R) ⟨0, .slice none 0 0, []⟩ ⟨by simp, rfl⟩ ?_ ?_ ?_
  · repeat(first|exact Env.le_nil _|(refine Env.le_cons rfl ?_ ?_;first|rfl|(simp;done)|exact congrArg _ (by omega)|rotate_left))
  · dsimp only
    rw [show tabT N 0 leI = [] from rfl]
    exact ent_
  rintro ⟨k, u, rows⟩ ⟨hk, hrl⟩
  dsimp only at hk hrl ⊢
  refine go ?_
  refine Cd.condP rfl (fun h => ?_) (fun h => ?_)
  · have hk' : k < N := by omega
    refine go ?_
    refine Cd.loop (fun s : Nat × Value => s.1 ≤ N) (fun s => N - s.1) (fun s => [(0, .int .i64 n), (3, u), (4, .int .i64 k), (5, s.2), (6, .int .i64 s.1)]) (fun s => sl eBool s.2 (rowT s.1 leI k) :: sl eVal u rows :: rws false eBool rows (tabT N k leI) :: R) ⟨0, .slice none 0 0⟩ (by simp) ?_ ?_ ?_
    · repeat(first|exact Env.le_nil _|(refine Env.le_cons rfl ?_ ?_;first|rfl|(simp;done)|exact congrArg _ (by omega)|rotate_left))
    · dsimp only
      rw [show rowT 0 leI k = [] from rfl]
      exact ent_
    rintro ⟨j, w⟩ hj
    dsimp only at hj ⊢
    have hjl := rowT_length j leI k
    refine go ?_
    refine Cd.condP rfl (fun h2 => ?_) (fun h2 => ?_)
    · refine go ?_;repeat((with_reducible refine Ol.g ?_);(first|refine Ol.eff rfl rfl rfl (Eff.alloc fun _=>?_)|refine Ol.eff rfl rfl rfl (Eff.box fun _=>?_)|refine Ol.eff0 rfl rfl (Eff.store rfl rfl ?_)|refine Ol.eff rfl rfl rfl (Eff.bslice rfl rfl fun _=>?_)|(refine Ol.eff0 rfl rfl (Eff.storeE rfl ?_ ?_);exact pre_)|(refine Ol.eff rfl rfl rfl (Eff.append1 rfl ?_ fun _=>?_);exact pre_));refine go ?_)
      rename_i w'
      refine Dn.round ⟨j + 1, w'⟩ (by dsimp only; omega) (by dsimp only; omega) ?_ ?_
      · repeat(first|exact Env.le_nil _|(refine Env.le_cons rfl ?_ ?_;first|rfl|(simp;done)|exact congrArg _ (by omega)|rotate_left))
      · dsimp only
        rw [rowT_succ, show leI (k : Int) (j : Int) = decide ((k : Int) ≤ (j : Int)) from rfl]
        exact ent_
    · have hje : j = N := by omega
      subst hje
      refine go ?_;repeat((with_reducible refine Ol.g ?_);(first|refine Ol.eff rfl rfl rfl (Eff.alloc fun _=>?_)|refine Ol.eff rfl rfl rfl (Eff.box fun _=>?_)|refine Ol.eff0 rfl rfl (Eff.store rfl rfl ?_)|refine Ol.eff rfl rfl rfl (Eff.bslice rfl rfl fun _=>?_)|(refine Ol.eff0 rfl rfl (Eff.storeE rfl ?_ ?_);exact pre_)|(refine Ol.eff rfl rfl rfl (Eff.append1 rfl ?_ fun _=>?_);exact pre_));refine go ?_)
      rename_i u'
      refine Dn.round ⟨k + 1, u', rows ++ [w]⟩ ⟨by dsimp only; omega, by simp [hrl]⟩ (by dsimp only; omega) ?_ ?_
      · repeat(first|exact Env.le_nil _|(refine Env.le_cons rfl ?_ ?_;first|rfl|(simp;done)|exact congrArg _ (by omega)|rotate_left))
      · dsimp only
        rw [tabT_succ]
        exact ent_
  · have hke : k = N := by omega
    subst hke
    refine go ?_
    refine Dn.ret1 rfl rfl fun w hs => ⟨(u, rows), rfl, trivial, hs⟩
end Go.Proofs.Ytcgjmlapmdbnmaa

