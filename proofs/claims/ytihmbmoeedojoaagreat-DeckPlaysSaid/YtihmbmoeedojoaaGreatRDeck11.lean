/- Contracts of functions of the program, proved in a small separation logic. Conditions: those that each theorem states. -/
import Derived.Test.YtihmbmoeedojoaaGreatRDeck10
namespace Go.Proofs.YtihmbmoeedojoaaGreat
open Go Go.Sl
set_option maxHeartbeats 4000000
set_option maxRecDepth 100000
set_option linter.unusedVariables false
-- FN confidant/confidantref9.SameInts
theorem ref9_SameInts (r r2 : Bool) (u v : Value) (xs ys : List Int) (hx : xs.length ≤ 1000000) (hy : ys.length ≤ 1000000) :
    Sp Tryz.prog 74 [u, v] [slB r (eInt .i32) u xs, slB r2 (eInt .i32) v ys] (fun _ : Unit => True) (fun _ => .bool (decide (xs = ys))) (fun _ => [slB r (eInt .i32) u xs, slB r2 (eInt .i32) v ys]) := by
  refine Sp.intro (n := 26) Tryz.func74 rfl rfl fun w0 R => ?_
  dsimp only [List.cons_append, List.nil_append, envOf]
  refine go ?_
  refine Cd.condP rfl (fun h => ?_) (fun h => ?_)
  · refine go ?_
    refine Dn.ret1 rfl rfl fun w hs => ⟨(), ?_, by trivial, by first | exact hs | (refine hs.conv ?_; exact ent_)⟩
    rw [decide_eq_false fun e => by subst e; exact h rfl]
  have hl : xs.length = ys.length := by omega
  refine go ?_
  refine Cd.loop (fun k : Nat => k ≤ xs.length ∧ xs.take k = ys.take k) (fun k => xs.length - k) (fun k => [(0, u), (1, v), (5, .int .i64 k)]) (fun _ => _) 0 ⟨by omega, by simp⟩ ?_ (ents.refl _) fun k ⟨hk, he⟩ => ?_
  · repeat(first|exact Env.le_nil _|(refine Env.le_cons rfl ?_ ?_;first|rfl|(simp;done)|exact congrArg _ (by omega)|rotate_left))
  refine go ?_
  refine Cd.condP rfl (fun h => ?_) (fun h => ?_)
  · have hk' : k < xs.length := by omega
    refine go ?_
    refine Cd.draw2 [[], [], [0, 1], [0, 1, 2], [], [], [4, 5], [4, 5, 6], [0, 1, 2, 3, 4, 5, 6, 7]] [] [] (td := [(0, .fresh), (1, .fresh), (2, .fresh), (3, .fresh), (4, .fresh), (5, .fresh), (6, .fresh), (7, .fresh), (8, .fresh)]) mixed (by kernel_rfl) (by kernel_rfl) (by decide) (by decide) rfl (by kernel_rfl) ?_
    refine god2 ?_
    refine go ?_
    refine Cd.condP rfl (fun h2 => ?_) (fun h2 => ?_)
    · refine go ?_
      refine Dn.ret1 rfl rfl fun w hs => ⟨(), ?_, by trivial, by first | exact hs | (refine hs.conv ?_; exact ent_)⟩
      rw [decide_eq_false fun e => by subst e; exact h2 rfl]
    · refine go ?_
      refine Dn.round (k + 1) ⟨by omega, ?_⟩ (by omega) ?_ (ents.refl _)
      · have h3 : rd xs (k : Int) = rd ys (k : Int) := Decidable.of_not_not h2
        rw [take_rd hk', take_rd (by omega), he, h3]
      · repeat(first|exact Env.le_nil _|(refine Env.le_cons rfl ?_ ?_;first|rfl|(simp;done)|exact congrArg _ (by omega)|rotate_left))
  · have hke : k = xs.length := by omega
    subst hke
    refine go ?_
    refine Dn.ret1 rfl rfl fun w hs => ⟨(), ?_, by trivial, by first | exact hs | (refine hs.conv ?_; exact ent_)⟩
    rw [List.take_length] at he
    rw [decide_eq_true (by rw [he, hl, List.take_length])]
-- FN confidant/confidantref21.SameEvents
theorem ref21_SameEvents (r r2 : Bool) (u v : Value) (xs ys : List S_api_Event) (hx : xs.length ≤ 1000000000) (hy : ys.length ≤ 1000000000) :
    Sp Tryz.prog 21 [u, v] [slB r e_api_Event u xs, slB r2 e_api_Event v ys] (fun _ : Unit => True) (fun _ => .bool (decide (xs = ys))) (fun _ => [slB r e_api_Event u xs, slB r2 e_api_Event v ys]) := by
  refine Sp.intro (n := 26) Tryz.func21 rfl rfl fun w0 R => ?_
  dsimp only [List.cons_append, List.nil_append, envOf]
  refine go ?_
  refine Cd.condP rfl (fun h => ?_) (fun h => ?_)
  · refine go ?_
    refine Dn.ret1 rfl rfl fun w hs => ⟨(), ?_, by trivial, by first | exact hs | (refine hs.conv ?_; exact ent_)⟩
    rw [decide_eq_false fun e => by subst e; exact h rfl]
  have hl : xs.length = ys.length := by omega
  refine go ?_
  refine Cd.loop (fun k : Nat => k ≤ xs.length ∧ xs.take k = ys.take k) (fun k => xs.length - k) (fun k => [(0, u), (1, v), (5, .int .i64 k)]) (fun _ => _) 0 ⟨by omega, by simp⟩ ?_ (ents.refl _) fun k ⟨hk, he⟩ => ?_
  · repeat(first|exact Env.le_nil _|(refine Env.le_cons rfl ?_ ?_;first|rfl|(simp;done)|exact congrArg _ (by omega)|rotate_left))
  refine go ?_
  refine Cd.condP rfl (fun h => ?_) (fun h => ?_)
  · have hk' : k < xs.length := by omega
    refine go ?_
    refine Cd.draw2 [[], [], [0, 1], [0, 1, 2], [], [], [4, 5], [4, 5, 6], [0, 1, 2, 3, 4, 5, 6, 7]] [] [] (td := [(0, .fresh), (1, .fresh), (2, .fresh), (3, .fresh), (4, .fresh), (5, .fresh), (6, .fresh), (7, .fresh), (8, .fresh)]) mixed (by kernel_rfl) (by kernel_rfl) (by decide) (by decide) rfl (by kernel_rfl) ?_
    refine god2 ?_
    refine go ?_
    refine Cd.condP rfl (fun h2 => ?_) (fun h2 => ?_)
    · refine go ?_
      refine Dn.ret1 rfl rfl fun w hs => ⟨(), ?_, by trivial, by first | exact hs | (refine hs.conv ?_; exact ent_)⟩
      rw [decide_eq_false fun e => by subst e; exact h2 rfl]
    · refine go ?_
      refine Dn.round (k + 1) ⟨by omega, ?_⟩ (by omega) ?_ (ents.refl _)
      · have h3 : rd xs (k : Int) = rd ys (k : Int) := Decidable.of_not_not h2
        rw [take_rd hk', take_rd (by omega), he, h3]
      · repeat(first|exact Env.le_nil _|(refine Env.le_cons rfl ?_ ?_;first|rfl|(simp;done)|exact congrArg _ (by omega)|rotate_left))
  · have hke : k = xs.length := by omega
    subst hke
    refine go ?_
    refine Dn.ret1 rfl rfl fun w hs => ⟨(), ?_, by trivial, by first | exact hs | (refine hs.conv ?_; exact ent_)⟩
    rw [List.take_length] at he
    rw [decide_eq_true (by rw [he, hl, List.take_length])]
theorem task_is {t : S_api_Task} {a : AT} (h : taskOf t a.stack = a) : t = ⟨a.id, a.func, a.pc, t.f_Stack, a.v0, a.v1, a.v2, a.v3, a.label, a.clear, a.privs, a.worker⟩ := by
  rw [← h]; rfl
-- FN confidant/confidantref9.Same
theorem ref9_Same (t u : S_api_Task) (a : AT) :
    Sp Tryz.prog 29 [tV t, tV u] [tkC t a, tkC u a] (fun _ : Unit => True) (fun _ => .bool true) (fun _ => []) := by
  refine Sp.intro (n := 66) Tryz.func29 rfl rfl fun w0 R => ?_
  dsimp only [List.cons_append, List.nil_append, envOf]
  first | (with_reducible refine Cd.g ?_; refine Cd.pk (A := (tkC t a)) rfl (by exact tk_) fun x hx => ?_) | (with_reducible refine Ol.g ?_; refine Ol.pk (A := (tkC t a)) rfl (by exact tk_) fun x hx => ?_) | (with_reducible refine Dn.g ?_; refine Dn.pk (A := (tkC t a)) rfl (by exact tk_) fun x hx => ?_)
  dsimp only [List.cons_append, List.nil_append]
  first | (with_reducible refine Cd.g ?_; refine Cd.pk (A := (tkC u a)) rfl (by exact tk_) fun y hy => ?_) | (with_reducible refine Ol.g ?_; refine Ol.pk (A := (tkC u a)) rfl (by exact tk_) fun y hy => ?_) | (with_reducible refine Dn.g ?_; refine Dn.pk (A := (tkC u a)) rfl (by exact tk_) fun y hy => ?_)
  dsimp only [List.cons_append, List.nil_append]
  have hst := hx.2.st
  obtain ⟨i, fn, pc, v, v0, v1, v2, v3, lb, cl, pr, wk⟩ := t
  obtain ⟨i', fn', pc', v', v0', v1', v2', v3', lb', cl', pr', wk'⟩ := u
  have h1 := task_is hx.1
  have h2 := task_is hy.1
  simp only [S_api_Task.mk.injEq] at h1 h2
  obtain ⟨rfl, rfl, rfl, -, rfl, rfl, rfl, rfl, rfl, rfl, rfl, rfl⟩ := h1
  obtain ⟨rfl, rfl, rfl, -, rfl, rfl, rfl, rfl, rfl, rfl, rfl, rfl⟩ := h2
  dsimp only
  refine go ?_;repeat((with_reducible refine Ol.g ?_);(first|refine Ol.eff rfl rfl rfl (Eff.alloc fun _=>?_)|refine Ol.eff rfl rfl rfl (Eff.box fun _=>?_)|refine Ol.eff0 rfl rfl (Eff.store rfl rfl ?_)|refine Ol.eff rfl rfl rfl (Eff.bslice rfl rfl fun _=>?_)|(refine Ol.eff0 rfl rfl (Eff.storeE rfl ?_ ?_);exact pre_)|(refine Ol.eff rfl rfl rfl (Eff.append1 rfl ?_ fun _=>?_);exact pre_));refine go ?_)
  rename_i c c2
  rw [decide_eq_true (show a.id = a.id from rfl)]
  refine go ?_
  rw [decide_eq_true (show a.func = a.func from rfl)]
  refine go ?_
  rw [decide_eq_true (show a.pc = a.pc from rfl)]
  refine go ?_
  with_reducible refine Ol.g ?_
  refine Ol.eff rfl rfl rfl (Eff.call (R := ?_) (ref9_SameInts true true v v' a.stack a.stack hst hst) rfl ?_ ?_)
  rotate_left
  · exact tkl_
  rintro _ -
  dsimp only [List.cons_append, List.nil_append]
  rw [decide_eq_true (show a.stack = a.stack from rfl)]
  refine go ?_
  rw [decide_eq_true (show (⟨a.v0, a.v1, a.v2, a.v3⟩ : S_A4_int32) = ⟨a.v0, a.v1, a.v2, a.v3⟩ from rfl)]
  refine go ?_
  rw [decide_eq_true (show a.label = a.label from rfl)]
  refine go ?_
  rw [decide_eq_true (show a.clear = a.clear from rfl)]
  refine go ?_
  rw [decide_eq_true (show a.privs = a.privs from rfl)]
  refine go ?_
  rw [decide_eq_true (show a.worker = a.worker from rfl)]
  refine go ?_
  refine Dn.ret1 rfl rfl fun w' hs => ⟨(), rfl, trivial, hs.conv (by exact ent_)⟩
-- FN confidant/confidantref9.SameAll
theorem ref9_SameAll (r r2 : Bool) (u v : Value) (ts us : List S_api_Task) (l : List AT) (hl : l.length ≤ 1000000000) :
    Sp Tryz.prog 22 [u, v] [slB r e_api_Task u ts, rel2 tkC ts l, slB r2 e_api_Task v us, rel2 tkC us l] (fun _ : Unit => True) (fun _ => .bool true) (fun _ => [slB r e_api_Task u ts, slB r2 e_api_Task v us]) := by
  refine Sp.intro (n := 27) Tryz.func22 rfl rfl fun w0 R => ?_
  dsimp only [List.cons_append, List.nil_append, envOf]
  first | (with_reducible refine Cd.g ?_; refine Cd.know (fun w_ hw_ => rel2_len (Tk.sat (A := (rel2 tkC ts l)) (by exact tk_) hw_)) fun n1 => ?_) | (with_reducible refine Ol.g ?_; refine Ol.know (fun w_ hw_ => rel2_len (Tk.sat (A := (rel2 tkC ts l)) (by exact tk_) hw_)) fun n1 => ?_) | (with_reducible refine Dn.g ?_; refine Dn.know (fun w_ hw_ => rel2_len (Tk.sat (A := (rel2 tkC ts l)) (by exact tk_) hw_)) fun n1 => ?_)
  first | (with_reducible refine Cd.g ?_; refine Cd.know (fun w_ hw_ => rel2_len (Tk.sat (A := (rel2 tkC us l)) (by exact tk_) hw_)) fun n2 => ?_) | (with_reducible refine Ol.g ?_; refine Ol.know (fun w_ hw_ => rel2_len (Tk.sat (A := (rel2 tkC us l)) (by exact tk_) hw_)) fun n2 => ?_) | (with_reducible refine Dn.g ?_; refine Dn.know (fun w_ hw_ => rel2_len (Tk.sat (A := (rel2 tkC us l)) (by exact tk_) hw_)) fun n2 => ?_)
  refine go ?_
  rw [decide_eq_false (show ¬ (ts.length : Int) ≠ us.length by omega)]
  refine go ?_
  refine Cd.loop (fun k : Nat => k ≤ ts.length) (fun k => ts.length - k) (fun k => [(0, u), (1, v), (5, .int .i64 k)]) (fun _ => _) 0 (by omega) ?_ (ents.refl _) fun k hk => ?_
  · repeat(first|exact Env.le_nil _|(refine Env.le_cons rfl ?_ ?_;first|rfl|(simp;done)|exact congrArg _ (by omega)|rotate_left))
  refine go ?_
  refine Cd.condP rfl (fun h => ?_) (fun h => ?_)
  · refine Cd.conv (Tk.more (p := rel2_pers (fun _ _ => inferInstance) _ _) (A := rel2 tkC ts l) (rel2_gotI (i := k) (by omega) (by omega)) (by exact tk_)) ?_
    refine Cd.conv (Tk.more (p := rel2_pers (fun _ _ => inferInstance) _ _) (A := rel2 tkC us l) (rel2_gotI (i := k) (by omega) (by omega)) (by exact tk_)) ?_
    refine go ?_
    refine Cd.draw2 [[], [], [0, 1], [0, 1, 2], [], [], [4, 5], [4, 5, 6], [0, 1, 2, 3, 4, 5, 6, 7], [0, 1, 2, 3, 4, 5, 6, 7, 8]] [8] [] (td := [(0, .fresh), (1, .fresh), (2, .fresh), (3, .fresh), (4, .fresh), (5, .fresh), (6, .fresh), (7, .fresh)]) mixed (by kernel_rfl) (by kernel_rfl) (by decide) (by decide) rfl (by kernel_rfl) ?_
    refine god2 ?_
    refine Sg2.one (td := [(9, .fresh)]) rfl (by kernel_rfl) fun F8_ => ?_
    dsimp only [List.cons_append, List.nil_append]
    refine SpOp.eff rfl rfl rfl rfl rfl (Eff.call (R := ?_) (ref9_Same (rd ts k) (rd us k) (rd l k)) rfl ?_ ?_)
    rotate_left
    · exact tkl_
    rintro _ -
    dsimp only [List.cons_append, List.nil_append]
    refine Sn.ok ?_
    refine god2 ?_
    refine go ?_
    refine Dn.round (k + 1) (by omega) (by omega) ?_ (by exact ent_)
    repeat(first|exact Env.le_nil _|(refine Env.le_cons rfl ?_ ?_;first|rfl|(simp;done)|exact congrArg _ (by omega)|rotate_left))
  · refine go ?_
    refine Dn.ret1 rfl rfl fun w' hs => ⟨(), rfl, trivial, hs.conv (by exact ent_)⟩
end Go.Proofs.YtihmbmoeedojoaaGreat

