/- Contracts of functions of the program, proved in a small separation logic. Conditions: those that each theorem states. -/
import Derived.Test.YtcgjmlapmdbnmaaGate2
namespace Go.Proofs.Ytcgjmlapmdbnmaa
open Go Go.Sl
set_option maxHeartbeats 4000000
set_option maxRecDepth 100000
set_option linter.unusedVariables false
def pairV3 (p : Int × Int) : List Value := [.int .i64 p.1, .int .i64 p.2]
def rowT (n : Nat) (F : Int → Int → Bool) (a : Int) : List Bool := (ints n).map fun b => F a b
def tabT (n k : Nat) (F : Int → Int → Bool) : List (List Bool) := (ints k).map fun a => rowT n F a
theorem rowT_succ (n : Nat) (F : Int → Int → Bool) (a : Int) : rowT (n + 1) F a = rowT n F a ++ [F a n] := by unfold rowT; rw [ints_succ, List.map_append]; rfl
theorem tabT_succ (n k : Nat) (F : Int → Int → Bool) : tabT n (k + 1) F = tabT n k F ++ [rowT n F k] := by unfold tabT; rw [ints_succ, List.map_append]; rfl
theorem rowT_length (n : Nat) (F : Int → Int → Bool) (a : Int) : (rowT n F a).length = n := by simp [rowT, ints_length]
-- FN confidant/lattice.table
theorem lattice_table (n : Nat) (hn : n ≤ 4096) (fv : Value) (A : HProp) (F : Int → Int → Bool) (hF : FnV (P := Try.prog) fv A pairV3 (fun _ => True) (fun p => .bool (F p.1 p.2))) :
    Sp Try.prog 80 [.int .i64 n, fv] [A] (fun _ : Value × List Value => True) (fun x => x.1) (fun x => [A, sl eVal x.1 x.2, rws false eBool x.2 (tabT n n F)]) := by
  refine Sp.intro (n := 32) Try.func80 rfl rfl fun w0 R => ?_
  dsimp only [List.cons_append, List.nil_append, envOf]
  refine go ?_
  refine Cd.loop (fun s : Nat × Value × List Value => s.1 ≤ n ∧ s.2.2.length = s.1) (fun s => n - s.1) (fun s => [(0, .int .i64 n), (1, fv), (5, s.2.1), (9, .int .i64 n), (10, .int .i64 s.1)]) (fun s => A :: sl eVal s.2.1 s.2.2 :: rws false eBool s.2.2 (tabT n s.1 F) :: R) ⟨0, .slice none 0 0, []⟩ ⟨by simp, rfl⟩ ?_ ?_ ?_
  · repeat(first|exact Env.le_nil _|(refine Env.le_cons rfl ?_ ?_;first|rfl|(simp;done)|exact congrArg _ (by omega)|rotate_left))
  · dsimp only
    rw [show tabT n 0 F = [] from rfl]
    exact ent_
  rintro ⟨k, v5, rows⟩ ⟨hk, hrl⟩
  dsimp only at hk hrl ⊢
  refine go ?_
  refine Cd.condP rfl (fun h => ?_) (fun h => ?_)
  · have hk' : k < n := by omega
    refine go ?_
    refine Cd.loop (fun s : Nat × Value => s.1 ≤ n) (fun s => n - s.1) (fun s => [(0, .int .i64 n), (1, fv), (5, v5), (9, .int .i64 n), (10, .int .i64 k), (6, .int .i64 k), (7, s.2), (13, .int .i64 n), (14, .int .i64 s.1)]) (fun s => sl eBool s.2 (rowT s.1 F k) :: A :: sl eVal v5 rows :: rws false eBool rows (tabT n k F) :: R) ⟨0, .slice none 0 0⟩ (by simp) ?_ ?_ ?_
    · repeat(first|exact Env.le_nil _|(refine Env.le_cons rfl ?_ ?_;first|rfl|(simp;done)|exact congrArg _ (by omega)|rotate_left))
    · dsimp only
      rw [show rowT 0 F k = [] from rfl]
      exact ent_
    rintro ⟨j, u⟩ hj
    dsimp only at hj ⊢
    refine go ?_
    refine Cd.condP rfl (fun h2 => ?_) (fun h2 => ?_)
    · have hjl := rowT_length j F k
      refine go ?_
      with_reducible refine Ol.g ?_
      refine Ol.eff rfl rfl rfl (Eff.callV (R := ?_) hF ((k : Int), (j : Int)) trivial rfl ?_ ?_)
      rotate_left
      · exact tkl_
      dsimp only
      refine go ?_;repeat((with_reducible refine Ol.g ?_);(first|refine Ol.eff rfl rfl rfl (Eff.alloc fun _=>?_)|refine Ol.eff rfl rfl rfl (Eff.box fun _=>?_)|refine Ol.eff0 rfl rfl (Eff.store rfl rfl ?_)|refine Ol.eff rfl rfl rfl (Eff.bslice rfl rfl fun _=>?_)|(refine Ol.eff0 rfl rfl (Eff.storeE rfl ?_ ?_);exact pre_)|(refine Ol.eff rfl rfl rfl (Eff.append1 rfl ?_ fun _=>?_);exact pre_));refine go ?_)
      rename_i u'
      refine Dn.round ⟨j + 1, u'⟩ (by dsimp only; omega) (by dsimp only; omega) ?_ ?_
      · repeat(first|exact Env.le_nil _|(refine Env.le_cons rfl ?_ ?_;first|rfl|(simp;done)|exact congrArg _ (by omega)|rotate_left))
      · dsimp only
        rw [rowT_succ]
        exact ent_
    · have hje : j = n := by omega
      subst hje
      have hjl := rowT_length j F k
      refine go ?_
      with_reducible refine Ol.g ?_
      refine Ol.eff rfl rfl rfl (Eff.call (R := ?_) (clone_bool false u (rowT j F k) (by omega)) rfl ?_ ?_)
      rotate_left
      · exact tkl_
      rintro u' -
      dsimp only [List.cons_append, List.nil_append, id]
      refine go ?_;repeat((with_reducible refine Ol.g ?_);(first|refine Ol.eff rfl rfl rfl (Eff.alloc fun _=>?_)|refine Ol.eff rfl rfl rfl (Eff.box fun _=>?_)|refine Ol.eff0 rfl rfl (Eff.store rfl rfl ?_)|refine Ol.eff rfl rfl rfl (Eff.bslice rfl rfl fun _=>?_)|(refine Ol.eff0 rfl rfl (Eff.storeE rfl ?_ ?_);exact pre_)|(refine Ol.eff rfl rfl rfl (Eff.append1 rfl ?_ fun _=>?_);exact pre_));refine go ?_)
      rename_i v5'
      refine Dn.round ⟨k + 1, v5', rows ++ [u']⟩ ⟨by dsimp only; omega, by simp [hrl]⟩ (by dsimp only; omega) ?_ ?_
      · repeat(first|exact Env.le_nil _|(refine Env.le_cons rfl ?_ ?_;first|rfl|(simp;done)|exact congrArg _ (by omega)|rotate_left))
      · dsimp only
        rw [tabT_succ]
        exact ent_
  · have hke : k = n := by omega
    subst hke
    refine go ?_
    refine Dn.ret1 rfl rfl fun w hs => ⟨(v5, rows), rfl, trivial, hs⟩
end Go.Proofs.Ytcgjmlapmdbnmaa

