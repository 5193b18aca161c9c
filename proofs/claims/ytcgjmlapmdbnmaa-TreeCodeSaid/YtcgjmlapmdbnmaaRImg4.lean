/- Contracts of functions of the program, proved in a small separation logic. Conditions: those that each theorem states. -/
import Derived.Test.YtcgjmlapmdbnmaaRImg3
namespace Go.Proofs.Ytcgjmlapmdbnmaa
open Go Go.Sl
set_option maxHeartbeats 4000000
set_option maxRecDepth 100000
set_option linter.unusedVariables false
abbrev argOk (f : List S_api_Instr) : Prop := ∀ x, x ∈ f → 2 ≤ argT x.f_Op → i32B x.f_Arg
def imageT (m : List (List S_api_Instr)) (labels gates : Int) : Int × Int × Int :=
  if 64 < m.length then (0, 0, 22) else if m.length = 0 then (0, 0, 24)
  else match m.findIdx? (fun f => decide ((funcT f m.length labels gates).2 ≠ 0)) with
    | some i => (i, funcT (rd m i) m.length labels gates)
    | none => (0, 0, 0)
-- FN confidant/confidantref5.Image
theorem ref5_Image (v : Value) (rows : List Value) (m : List (List S_api_Instr)) (labels gates : Int) (ha : ∀ f, f ∈ m → argOk f) :
    Sp Try.prog 29 [v, .int .i64 labels, .int .i64 gates] [rsl eVal v rows, rws true e_api_Instr rows m] (fun _ : Unit => True) (fun _ => .tuple #[.int .i64 (imageT m labels gates).1, .int .i64 (imageT m labels gates).2.1, .int .i64 (imageT m labels gates).2.2]) (fun _ => []) := by
  refine Sp.intro (n := 41) Try.func29 rfl rfl fun w0 R => ?_
  dsimp only [List.cons_append, List.nil_append, envOf]
  first | (with_reducible refine Cd.g ?_; refine Cd.know (fun w_ hw_ => rws_len (Tk.sat (A := (rws true e_api_Instr rows m)) (by exact tk_) hw_)) fun hr => ?_) | (with_reducible refine Ol.g ?_; refine Ol.know (fun w_ hw_ => rws_len (Tk.sat (A := (rws true e_api_Instr rows m)) (by exact tk_) hw_)) fun hr => ?_) | (with_reducible refine Dn.g ?_; refine Dn.know (fun w_ hw_ => rws_len (Tk.sat (A := (rws true e_api_Instr rows m)) (by exact tk_) hw_)) fun hr => ?_)
  unfold imageT
  refine go ?_
  refine Cd.condP rfl (fun h => ?_) (fun h => ?_)
  · rw [if_pos (show 64 < m.length by omega)]
    refine go ?_
    refine Dn.ret3 rfl rfl rfl rfl fun w hs => ⟨(), rfl, trivial, hs.conv (by exact ent_)⟩
  rw [if_neg (show ¬ 64 < m.length by omega)]
  refine go ?_
  refine Cd.condP rfl (fun h0 => ?_) (fun h0 => ?_)
  · rw [if_pos (show m.length = 0 by omega)]
    refine go ?_
    refine Dn.ret3 rfl rfl rfl rfl fun w hs => ⟨(), rfl, trivial, hs.conv (by exact ent_)⟩
  rw [if_neg (show ¬ m.length = 0 by omega)]
  refine go ?_
  refine Cd.loop (fun k : Nat => k ≤ m.length ∧ ∀ j : Nat, j < k → decide ((funcT (rd m j) m.length labels gates).2 ≠ 0) = false) (fun k => m.length - k) (fun k => [(0, v), (1, .int .i64 labels), (2, .int .i64 gates), (9, .int .i64 k)])
    (fun k => rsl eVal v rows :: rws true e_api_Instr rows m :: R) 0 ⟨by omega, fun j hj => by omega⟩ ?_ ?_ ?_
  · repeat(first|exact Env.le_nil _|(refine Env.le_cons rfl ?_ ?_;first|rfl|(simp;done)|exact congrArg _ (by omega)|rotate_left))
  · exact ent_
  rintro k ⟨hk, hw⟩
  refine go ?_
  refine Cd.condP rfl (fun h1 => ?_) (fun h1 => ?_)
  · have hk2 : k < m.length := by omega
    refine Cd.conv (Tk.more (p := inferInstance) (A := rws true e_api_Instr rows m) (rws_get (i := k) (by omega) (by omega)) (by exact tk_)) ?_
    refine go ?_
    with_reducible refine Ol.g ?_
    refine Ol.eff rfl rfl rfl (Eff.call (R := ?_) (ref5_Func (rd rows k) (rd m k) rows.length labels gates (ha _ (rd_mem (by omega) (by omega)))) rfl ?_ ?_)
    rotate_left
    · exact tkl_
    rintro _ -
    dsimp only [List.cons_append, List.nil_append]
    rw [hr]
    refine go ?_
    refine Cd.condP rfl (fun g => ?_) (fun g => ?_)
    · rw [findIdx_some (k := k) hk2 (decide_eq_true g) hw]
      refine go ?_
      refine Dn.ret3 rfl rfl rfl rfl fun w hs => ⟨(), rfl, trivial, hs.conv (by exact ent_)⟩
    · refine go ?_
      refine Dn.round (k + 1) ⟨by omega, fun j hj => ?_⟩ (by omega) (by repeat(first|exact Env.le_nil _|(refine Env.le_cons rfl ?_ ?_;first|rfl|(simp;done)|exact congrArg _ (by omega)|rotate_left))) (by exact ent_)
      rcases Nat.lt_succ_iff_lt_or_eq.1 hj with h | h
      · exact hw j h
      · subst h; exact decide_eq_false g
  obtain rfl : k = m.length := by omega
  rw [findIdx_none hw]
  refine go ?_
  refine Dn.ret3 rfl rfl rfl rfl fun w hs => ⟨(), rfl, trivial, hs.conv (by exact ent_)⟩
end Go.Proofs.Ytcgjmlapmdbnmaa

